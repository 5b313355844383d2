/-
  Degrees count neighbours; together they are an even number, at most twice the number of edges: for every code: no condition.
-/
import Derived.Test.YtoolmknnmmecfaaDoorArgs
import Derived.Test.YtoolmknnmmecfaaDoorDrawN
import Derived.Test.YtoolmknnmmecfaaDoorSums
import Derived.Test.YtoolmknnmmecfaaDoorSame
import Derived.Test.YtoolmknnmmecfaaDoorBytes
import Derived.Test.YtoolmknnmmecfaaDoorFacts
import Derived.Test.YtoolmknnmmecfaaDoorTab
import Derived.Test.YtoolmknnmmecfaaDoorCards
import Derived.Test.YtoolmknnmmecfaaDoorTie
import Derived.LaidMore
import Derived.OpenShut
import Derived.Stop.Joined
import Derived.SevenTiedAt
namespace Go.Proofs.YtoolmknnmmecfaaDoor
open Go.ChangeShapes Go.WideShapes Go.ChangeAt Go.RowKit
set_option linter.unusedVariables false

theorem degreesTo_getD (g : GraphD) (n k : Nat) (h : k < n) : (degreesTo g n).getD k 0 = ((nearOf g (k : Int)).length : Int) := by simp [degreesTo, h]

set_option maxRecDepth 100000 in
set_option maxHeartbeats 8000000 in
theorem FnDegreesOf_walk (w : World) (va : Value) (bs : List Int) (hv : Rd w 1 va bs.length (bys bs)) (hx : ∀ x ∈ bs, 0 ≤ x ∧ x ≤ 255) (HT : TabW w) :
    Calls Tryd.prog 7 #[va] w fun e w' => e = .returned (.bool true) ∧ Below w.heap.size w w' := by
  have HDR := Lib.hid (DrawDegreesOf_any w va bs hv hx)
  have HTB := Lib.hid HT; clear HT
  obtain ⟨hlb, av, acap, rfl, hcap, hmc, hcell⟩ := hv
  clear hlb hcap hmc hcell hx
  by_cases hl : bs.length ≤ 1048576
  case neg =>
    have hl' : decide ((bs.length : Int) > 1048576) = true := by simp; omega
    go_enter Tryd.func7, Tryd.ntmps7
    go_wp2_with fail
    go_ret
    exact ⟨rfl, Below.refl _ _⟩
  case pos =>
  have hl' : decide ((bs.length : Int) > 1048576) = false := by simp; omega
  go_enter Tryd.func7, Tryd.ntmps7
  go_wp2_with fail
  refine HDR.out.mono ?_
  rintro e w1 ⟨p, c, g, rfl, hr, hlen, hgm, hc, hb1⟩
  have hA : Below w1.heap.size w1 (w1.alloc (.cells #[.int .i64 g.1, .slice p g.2.length c] 30)) := (Below.refl _ _).alloc (Nat.le_refl _) _
  have HB := Lib.hid (hb1.tr hA); have HR := Lib.hid (hr.keep hA); have X := Lib.hid (heap_alloc_new w1 (.cells #[.int .i64 g.1, .slice p g.2.length c] 30))
  have hs2 : (w1.alloc (.cells #[.int .i64 g.1, .slice p g.2.length c] 30)).heap.size = w1.heap.size + 1 := by simp
  clear hA hb1 hr HDR hl'
  go_wp2_with fail
  generalize (w1.alloc (.cells #[.int .i64 g.1, .slice p g.2.length c] 30)) = w2 at *
  have HIM := Lib.hid (implDegreesOf_any w2 _ g HR.out)
  have HSP := Lib.hid fun wx h => specDegreesOf_any wx (.agg #[.int .i64 g.1, .slice p g.2.length c]) g h
  have HDE : Hid (degreesOf g = degreesOf g) := Lib.hid rfl
  have HNE := Lib.hid (fun h : graphOk g = false => show degreesOf g = [] by unfold degreesOf; rw [h]; rfl)
  have HYE := Lib.hid (fun h : graphOk g = true => show degreesOf g = degreesTo g g.1.toNat by unfold degreesOf; rw [h]; rfl)
  have hdl := degreesOf_length g
  clear HDE
  generalize degreesOf g = D at *
  refine HIM.out.mono ?_
  rintro e w3 ⟨s, rfl, hs, hb⟩
  obtain ⟨ax, cx, rfl, hcx, hcx2⟩ := Rd.form hs.rd
  have HX := Lib.hid hs.rd
  have hw23 := hb.size
  replace HB := Lib.hid (HB.out.tr hb); replace HR := Lib.hid (HR.out.keep hb); replace X := Lib.hid (box_keep X.out hb); clear hb hs HIM
  have k0 := box_cell X.out 0 (.int .i64 g.1) rfl; have k1 := box_cell X.out 1 (.slice p g.2.length c) rfl
  go_wp2_with fail
  refine (HSP.out _ HR.out).mono ?_
  rintro e w4 ⟨s, rfl, hs, hb⟩
  obtain ⟨ay, cy, rfl, -, -⟩ := Rd.form hs.rd
  have HY := Lib.hid hs.rd
  have hw34 := hb.size
  replace HB := Lib.hid (HB.out.tr hb); replace HR := Lib.hid (HR.out.keep hb); replace X := Lib.hid (box_keep X.out hb); replace HX := Lib.hid (HX.out.keep hb); clear hb hs HSP k0 k1
  go_wp2_with fail
  refine (sameInts_same w4 _ _ D HX.out HY.out).mono ?_
  rintro e w5 ⟨rfl, hb⟩
  have hw45 := hb.size
  replace HB := Lib.hid (HB.out.tr hb); replace HR := Lib.hid (HR.out.keep hb); replace X := Lib.hid (box_keep X.out hb); replace HX := Lib.hid (HX.out.keep hb); clear hb HY
  have k0 := box_cell X.out 0 (.int .i64 g.1) rfl; have k1 := box_cell X.out 1 (.slice p g.2.length c) rfl
  go_wp2_with fail
  have HGV := Lib.hid (specGraphValid_any w5 _ g HR.out)
  cases hok : graphOk g
  · rw [hok] at HGV
    have hD := HNE.out hok
    subst hD
    refine HGV.out.mono ?_
    rintro e w6 ⟨rfl, hb⟩
    replace HB := Lib.hid (HB.out.tr hb); clear hb k0 k1 HYE HNE
    go_wp2_with fail
    refine (alive_any _).mono ?_
    rintro e w7 ⟨rfl, hb⟩
    replace HB := Lib.hid (HB.out.tr hb); clear hb
    go_wp2_with fail
    go_ret
    exact ⟨rfl, HB.out⟩
  rw [hok] at HGV
  have hD := HYE.out hok
  have hgo := graphOk_yes hok
  have HNR := Lib.hid fun (wx : World) (v : Int) h ht => implNearOf_any wx (.agg #[.int .i64 g.1, .slice p g.2.length c]) g v h ht
  have HSA := Lib.hid (degSum_all hgo)
  have HDG := Lib.hid (fun k (h : k < g.1.toNat) => degreesTo_getD g g.1.toNat k h)
  rw [← hD] at HDG
  have hdn : D.length = g.1.toNat := by rw [hD, degreesTo_length]
  have hmm := hgo.1
  obtain ⟨n, hn⟩ : ∃ n, g.1.toNat = n := ⟨_, rfl⟩
  have hgn : g.1 = (n : Int) := by omega
  rw [hn] at HSA HDG hdn
  have hn16 : n ≤ 16 := by omega
  have HGN := Lib.hid hgn; clear hgn hn
  clear HYE HNE hD hok
  refine HGV.out.mono ?_
  rintro e w6 ⟨rfl, hb⟩
  have hw56 := hb.size
  replace HB := Lib.hid (HB.out.tr hb); replace HR := Lib.hid (HR.out.keep hb); replace X := Lib.hid (box_keep X.out hb); replace HX := Lib.hid (HX.out.keep hb); clear hb HGV k0 k1
  rw [hdn] at *
  have HNB := Lib.hid (fun k : Nat => nearOf_length g (k : Int))
  have HSB : Hid (∀ t, t ≤ n → degSum g t ≤ 256) := Lib.hid fun t ht => by
    have := sumN_bound (fun v => (nearOf g (v : Int)).length) 16 (fun i => nearOf_length g (i : Int)) t
    unfold degSum; omega
  go_wp2_with fail
  go_loopw [5, 6] (fun q i wr => ∃ t : Nat, t ≤ n ∧ i = .int .i64 t ∧ q = .int .i64 ((degSum g t : Nat) : Int) ∧ Hid (Below w6.heap.size w6 wr)) (fun _ i _ => n - (intOf i).toNat)
  case atStart => exact ⟨0, Nat.zero_le _, rfl, rfl, Lib.hid (Below.refl _ _)⟩
  case round =>
    obtain ⟨t, ht, rfl, rfl, HI⟩ := hrel
    by_cases hlt : t < n
    · obtain ⟨b1, o1, rfl, hb1, c0⟩ := (HX.out.keep HI.out).at_ (k := t) hlt
      have hg0 := HDG.out t hlt
      have hnb := HNB.out t
      have hsb := HSB.out t ht
      have hss : degSum g (t + 1) = degSum g t + (nearOf g (t : Int)).length := rfl
      have HNT := Lib.hid fun wx h ht' => HNR.out wx (t : Int) h ht'
      rw [hg0] at c0
      have X2 := Lib.hid (box_keep X.out HI.out)
      have HR2 := Lib.hid (HR.out.keep HI.out)
      have HT2 := Lib.hid ((HTB.out.keep HB.out).keep HI.out)
      have hxl := box_lt X2.out
      generalize nearOf g (t : Int) = N at *
      have k0 := box_cell X2.out 0 (.int .i64 g.1) rfl; have k1 := box_cell X2.out 1 (.slice p g.2.length c) rfl
      go_wp2_with fail
      refine wp_region_relA (fun x => { tmps := #[.slice av bs.length acap, undef, x 2, .pointer (some ⟨w1.heap.size, 0, none⟩), .slice (some ⟨b1, o1, none⟩) n cx, .int .i64 ((degSum g t : Nat) : Int), .int .i64 (t : Int), .slice av bs.length acap, .int .i64 (bs.length : Int), .bool false, .slice av bs.length acap, .agg #[.int .i64 g.1, .slice p g.2.length c], .agg #[.int .i64 g.1, .slice p g.2.length c], .slice (some ⟨b1, o1, none⟩) n cx, .slice (some ⟨b1, o1, none⟩) n cx, .agg #[.int .i64 g.1, .slice p g.2.length c], .slice ay n cy, .bool true, .bool false, .agg #[.int .i64 g.1, .slice p g.2.length c], .bool true, .bool false, undef, undef, undef, undef, undef, undef, x 28, x 29, x 30, x 31, x 32, x 33, x 34, x 35, x 36, x 37, x 38, x 39, x 40, x 41, x 42, x 43, x 44, x 45, x 46, x 47, x 48, undef, undef, undef, undef, undef, undef, undef, undef, undef, undef, undef, undef, undef, undef, undef, undef, undef, undef], defers := [] })
        (fun _ _ wx => Below wr.heap.size wr wx) (fun _ _ _ => True)
        (Tl [cst (.slice (some ⟨b1, o1, none⟩) n cx), cst (.int .i64 (t : Int)), cst (.pointer (some ⟨b1, o1 + t, none⟩)), cst (.int .i64 (N.length : Int)), cst (.agg #[.int .i64 g.1, .slice p g.2.length c]), cst (.int .i64 (t : Int)), (fun v _ => ∃ a c, v = .slice a N.length c), cst (.int .i64 (N.length : Int)), cst (.bool false)]) rfl
        (by kernel_rfl) (by kernel_rfl) (by kernel_rfl) (stab_Tl ?hst) (fun _ _ => trivial) (Below.refl _ _).drew ?hput ?hop ?hend
      case hst =>
        simp only [List.mem_cons, List.not_mem_nil, or_false, forall_eq_or_imp, forall_eq]
        refine ⟨?_, ?_, ?_, ?_, ?_, ?_, ?_, ?_, ?_⟩
        all_goals first | exact stab_cst _ _ | exact fun _ _ _ _ h => h
      case hput =>
        refine ⟨?_, ?_, ?_, ?_, ?_, ?_, ?_, ?_, ?_, trivial⟩
        all_goals first | exact fun x v => rfl | exact trivial
      case hop =>
        refine ⟨?_, ?_, ?_, ?_, ?_, ?_, ?_, ?_, ?_, trivial⟩
        · refine OpRel.plain rfl fun n L x wx K hn hL hG hdep hK => ?_
          clear hdep; go_simp
          exact hK _ _ hG trivial rfl
        · refine OpRel.plain rfl fun n L x wx K hn hL hG hdep hK => ?_
          clear hdep; go_simp
          exact hK _ _ hG trivial rfl
        · refine OpRel.plain rfl fun n L x wx K hn hL hG hdep hK => ?_
          have h34 : x 34 = _ := (hdep 0 rfl).2 _ rfl
          have h35 : x 35 = _ := (hdep 1 rfl).2 _ rfl
          clear hdep; simp only [h34, h35] at hK; go_simp
          exact hK _ _ hG trivial rfl
        · refine OpRel.plain rfl fun n L x wx K hn hL hG hdep hK => ?_
          have h36 : x 36 = _ := (hdep 2 rfl).2 _ rfl
          have z := (hG.cell (p := ⟨b1, o1 + t, none⟩) hb1).trans c0
          clear hdep; simp only [h36] at hK; go_simp
          exact hK _ _ hG trivial rfl
        · refine OpRel.plain rfl fun n L x wx K hn hL hG hdep hK => ?_
          have z0 := (hG.cell (p := ⟨w1.heap.size, 0, none⟩) hxl).trans k0; have z1 := (hG.cell (p := ⟨w1.heap.size, 1, none⟩) hxl).trans k1
          clear hdep; go_simp
          exact hK _ _ hG trivial rfl
        · refine OpRel.plain rfl fun n L x wx K hn hL hG hdep hK => ?_
          clear hdep; go_simp
          exact hK _ _ hG trivial rfl
        · refine OpRel.plain rfl fun n L x wx K hn hL hG hdep hK => ?_
          have h38 : x 38 = _ := (hdep 4 rfl).2 _ rfl
          have h39 : x 39 = _ := (hdep 5 rfl).2 _ rfl
          clear hdep; simp only [h38, h39] at hK; go_simp
          (refine (HNT.out _ (HR2.out.keep hG) (HT2.out.keep hG)).mono ?_; rintro e w' ⟨s, rfl, hs, hb⟩; obtain ⟨a9, c9, rfl, -, -⟩ := Rd.form hs.rd; exact hK _ _ (hG.trans (hb.mono hG.size)) trivial ⟨_, _, rfl⟩)
        · refine OpRel.plain rfl fun n L x wx K hn hL hG hdep hK => ?_
          obtain ⟨a9, c9, h40⟩ := (hdep 6 rfl).2 _ rfl
          simp only [h40] at hK
          clear hdep; go_simp
          exact hK _ _ hG trivial rfl
        · refine OpRel.plain rfl fun n L x wx K hn hL hG hdep hK => ?_
          have h37 : x 37 = _ := (hdep 3 rfl).2 _ rfl
          have h41 : x 41 = _ := (hdep 7 rfl).2 _ rfl
          clear hdep; simp only [h37, h41] at hK; go_simp
          exact hK _ _ hG trivial rfl
      case hend =>
        intro n' L x wx _ hG hh
        have h42 : x 42 = _ := (hh 8 (by decide)).2 _ rfl
        clear hh
        simp only [h42]
        have hsz := hG.size
        have z := (hG.cell (p := ⟨b1, o1 + t, none⟩) hb1).trans c0
        have HI2 := Lib.hid (HI.out.tr hG)
        clear hG c0 k0 k1 hg0
        go_wp2_with fail
        go_roundw
        case rel => exact ⟨t + 1, by omega, by go_num, by rw [hss]; go_num, HI2⟩
        case measure => simp [intOf]; omega
    · obtain rfl : t = n := by omega
      obtain ⟨⟨q, hq⟩, hle⟩ := HSA.out
      have X2 := Lib.hid (box_keep X.out HI.out)
      have k0 := box_cell X2.out 0 (.int .i64 g.1) rfl; have k1 := box_cell X2.out 1 (.slice p g.2.length c) rfl
      have hgn := HGN.out
      have hsb := HSB.out t ht
      have e1 : ((degSum g t : Nat) : Int) % 2 = 0 := by omega
      have e2 : decide (((degSum g t : Nat) : Int) ≤ 2 * (g.2.length : Int)) = true := by simp; omega
      have e3 : ((t : Int) == g.1) = true := by simp; omega
      have e4 : (((degSum g t : Nat) : Int) % 2 == 0) = true := by simp; omega
      have e5 : decide (degSum g t ≤ 2 * g.2.length) = true := by simp; omega
      have HF := Lib.hid (HB.out.tr HI.out)
      generalize degSum g t = S at *
      clear hgn hq hle HSA HDG HGN e1
      go_wp2_with fail
      go_ret
      exact ⟨rfl, HF.out⟩
set_option maxRecDepth 100000 in
theorem FnDegreesOf_met (os : Os) (args : Array Value) : laidMetH Tryd.prog [("math/bits.deBruijn32tab", Rows.laid_math_bits_deBruijn32tab)] ((World.doorLaid Tryd.prog 400 os).forCall (fun _ _ => 0) ⟨#[], args, []⟩).memory :=
  laidMetH_of_parts3 (fuel := 8) (laidMet_of_run' 8 (by kernel_rfl) (by kernel_rfl)) (by kernel_rfl) (by kernel_rfl)
set_option maxRecDepth 100000 in
theorem FnDegreesOf_lifted (os : Os) (started : os.Started) (H : Type) (enc : TypeId × Value → H) :
    ReturnsInHanded {} Tryd.checked os 7 .any (fun w args => (Rows.fnDegreesOfSpec.pre enc Tryd.prog Tryd.f7 [] false w args ∧ laidMetH Tryd.prog [("math/bits.deBruijn32tab", Rows.laid_math_bits_deBruijn32tab)] w) ∧ sizedMet enc Tryd.prog Tryd.f7 (OpenSpec.ofChange Rows.fnDegreesOfSpec) false w args)
      (Rows.fnDegreesOfSpec.post enc Tryd.prog Tryd.f7 false true false false) := by
  refine returnsInHanded_of_change_and (C := Tryd.checked) (X := fun w _ => laidMetH Tryd.prog [("math/bits.deBruijn32tab", Rows.laid_math_bits_deBruijn32tab)] w) (fun _ _ _ hh h => h.of_heap hh) tryOwn started (by kernel_rfl) Tryd.func7
    (ChangeSpec.witness_shaped (enc := enc) (C := Tryd.checked) (os := os) (X := fun w _ => laidMetH Tryd.prog [("math/bits.deBruijn32tab", Rows.laid_math_bits_deBruijn32tab)] w) false (World.doorLaid Tryd.prog 400 os) #[.slice none 0 0] 8 rfl (World.shaped_of_RefB (by kernel_rfl) (by kernel_rfl)) (by kernel_rfl) (by kernel_rfl) (by kernel_rfl) (FnDegreesOf_met os _)) ?_
  intro W base args ds gs before hval0 hW _ _ hL _
  have hval : ∀ (j : Nat) t v, Tryd.f7.params[j]? = some t → args[j]? = some v → Value.okWide Tryd.prog W .any base t v := hval0
  have hW' := hW
  obtain ⟨p, q, hA0, hV, rfl, hfz, hnd⟩ := hW
  have hA : DataW.TrodAll enc Tryd.prog W 0 (fun _ => true) true Tryd.f7.params.toList args.toList ds p := hA0
  rw [Tryd.params7] at hA hval
  obtain ⟨v0, vs0, d0, ds0, p0, q0, hargs, rfl, rfl, h0, r0⟩ := trodAll_cons hA
  obtain ⟨rfl, rfl, rfl⟩ := trodAll_nil r0
  obtain rfl : args = #[v0] := by cases args; simp_all
  obtain ⟨rfl, rfl⟩ := trodVars_none hV
  have k0 := h0
  have lt0 : ∀ x ∈ p0, x.block < W.heap.size := by obtain ⟨m, hm⟩ := k0; exact DataW.trod_lt m _ _ _ hm
  obtain ⟨c0, len0, cap0, rfl⟩ := okWide_slice Tryd.underlying37 (hval 0 37 v0 rfl rfl)
  obtain ⟨n0, x0, t0⟩ := trod_of rfl h0
  obtain ⟨xs0, w0, g0⟩ := trod_bytes Tryd.underlying37 Tryd.underlying5 (by kernel_rfl) t0
  clear hA0 hval0
  refine (FnDegreesOf_walk W _ xs0 w0 g0 (tab_of_laid hL)).mono fun e W' ⟨he, bel⟩ => ?_
  subst he
  exact ⟨_, rfl, _, _, _, [], _, [], hW', trodAll_mk1 (shut_bool Tryd.underlying4 _), (trodAll_cons_mk (Below.trod tryLaidOut (by kernel_rfl) (of_decide_eq_true (by kernel_rfl)) k0 bel lt0) trodAll_mk0), rfl, bel.frame _, fun h => by cases h⟩

set_option maxHeartbeats 4000000 in
set_option maxRecDepth 100000 in
theorem FnDegreesOf_holds : Rows.FnDegreesOfSaid := by
  refine OpenClaim.holds_of_wide 7 Tryd.f7 rfl rfl rfl rfl rfl rfl rfl ⟨rfl, rfl, rfl, rfl, rfl⟩ rfl rfl rfl rfl rfl ?hfn Tryd.func7 ?closed ?hinst ?hwrap (fun os started H enc _ => FnDegreesOf_lifted os started H enc)
  case hfn => as_aux_lemma => kernel_rfl
  case hinst => exact of_decide_eq_true (by as_aux_lemma => kernel_rfl)
  case hwrap => unfold Func.isWrapper; first | (rw [if_pos (by decide +kernel)]; kernel_rfl) | (rw [if_neg (by decide +kernel)]; exact ⟨rfl, rfl⟩)
  case closed =>
    simp only [joinedFacts, Bool.and_eq_true]
    repeat' apply And.intro
    all_goals first
      | with_reducible exact mayEnter_ok
      | (rewrite [liftsFinal_no]; as_aux_lemma => kernel_rfl)
      | (rewrite [make_cut]; as_aux_lemma => kernel_rfl)
      | as_aux_lemma => kernel_rfl

set_option maxRecDepth 100000 in
theorem FnDegreesOf_card : Rows.FnDegreesOfCardSaid := by
  refine Claim7.holds_tied_plain_at .later [] [.data] true (true, "39148f9e43077308cb6e81b34a7341aecb3c3a3944f7f2b389d533810053764d") false
    FnDegreesOf_holds (fun _ h => by cases h) (by kernel_rfl) (fun _ h => by cases h) fnDegreesOf_row_tie rfl ⟨rfl, rfl⟩ (by kernel_rfl) rfl ?_ (by kernel_rfl)
  intro f fn hf hfn
  obtain rfl : f = 7 := Option.some.inj ((show Tryd.prog.funcNamed "loop.example/graphcluster/laws.FnDegreesOf" = some 7 by kernel_rfl).symm.trans hf) |>.symm
  obtain rfl : fn = Tryd.f7 := (Option.some.inj (Tryd.func7.symm.trans hfn)).symm
  refine ⟨by kernel_rfl, fun j t ht => ?_⟩
  rw [Tryd.params7] at ht
  have hm : t ∈ [37] := by simpa using Array.mem_of_getElem? ht
  have hall : ([37].all fun u => !Tryd.prog.wantsStandIn u) = true := by kernel_rfl
  exact (show Tryd.prog.wantsStandIn t = false by simpa using List.all_eq_true.1 hall t hm)
end Go.Proofs.YtoolmknnmmecfaaDoor
