/-
  Parts have least vertices: neighbours have the same; no value is greater than the vertex; a value is its own: for every code: no condition.
-/
import Derived.Test.YtobhekkgbccoiaaDoorArgs
import Derived.Test.YtobhekkgbccoiaaDoorDrawN
import Derived.Test.YtobhekkgbccoiaaDoorLeast
import Derived.Test.YtobhekkgbccoiaaDoorDegrees
import Derived.Test.YtobhekkgbccoiaaDoorSame
import Derived.Test.YtobhekkgbccoiaaDoorBytes
import Derived.Test.YtobhekkgbccoiaaDoorFacts
import Derived.Test.YtobhekkgbccoiaaDoorTab
import Derived.Test.YtobhekkgbccoiaaDoorCards
import Derived.Test.YtobhekkgbccoiaaDoorTie
import Derived.LaidMore
import Derived.OpenShut
import Derived.Stop.Joined
import Derived.SevenTiedAt
namespace Go.Proofs.YtobhekkgbccoiaaDoor
open Go.ChangeShapes Go.WideShapes Go.ChangeAt Go.RowKit
set_option linter.unusedVariables false

theorem RdGraph.eds9 {w : World} {v0 v1 : Value} {g : GraphD} (h : RdGraph w (.agg #[v0, v1]) g) : RdEdgeS w v1 g.2 := by
  obtain ⟨v, hv, hr⟩ := h
  simp only [Value.agg.injEq, Array.mk.injEq, List.cons.injEq, and_true] at hv
  obtain ⟨-, rfl⟩ := hv
  exact hr
set_option maxRecDepth 100000 in
set_option maxHeartbeats 8000000 in
theorem FnLeastInPart_walk (w : World) (va : Value) (bs : List Int) (hv : Rd w 1 va bs.length (bys bs)) (hx : ∀ x ∈ bs, 0 ≤ x ∧ x ≤ 255) (HT : TabW w) :
    Calls Tryd.prog 5 #[va] w fun e w' => e = .returned (.bool true) ∧ Below w.heap.size w w' := by
  have HDR := Lib.hid (DrawLeastInPart_any w va bs hv hx)
  have HTB := Lib.hid HT; clear HT
  obtain ⟨hlb, av, acap, rfl, hcap, hmc, hcell⟩ := hv
  clear hlb hcap hmc hcell hx
  by_cases hl : bs.length ≤ 1048576
  case neg =>
    have hl' : decide ((bs.length : Int) > 1048576) = true := by simp; omega
    go_enter Tryd.func5, Tryd.ntmps5
    go_wp2_with fail
    go_ret
    exact ⟨rfl, Below.refl _ _⟩
  case pos =>
  have hl' : decide ((bs.length : Int) > 1048576) = false := by simp; omega
  go_enter Tryd.func5, Tryd.ntmps5
  go_wp2_with fail
  refine HDR.out.mono ?_
  rintro e w1 ⟨p, c, g, rfl, hr, hlen, hgm, hc, hb1⟩
  have hA : Below w1.heap.size w1 (w1.alloc (.cells #[.int .i64 g.1, .slice p g.2.length c] 30)) := (Below.refl _ _).alloc (Nat.le_refl _) _
  have HB := Lib.hid (hb1.tr hA); have HR := Lib.hid (hr.keep hA); have X := Lib.hid (heap_alloc_new w1 (.cells #[.int .i64 g.1, .slice p g.2.length c] 30))
  have hs2 : (w1.alloc (.cells #[.int .i64 g.1, .slice p g.2.length c] 30)).heap.size = w1.heap.size + 1 := by simp
  clear hA hb1 hr HDR hl'
  have k0 := box_cell X.out 0 (.int .i64 g.1) rfl; have k1 := box_cell X.out 1 (.slice p g.2.length c) rfl
  go_wp2_with fail
  generalize (w1.alloc (.cells #[.int .i64 g.1, .slice p g.2.length c] 30)) = w2 at *
  have HIM := Lib.hid (implLeastInPart_any w2 _ g HR.out (HTB.out.keep HB.out))
  have HSP := Lib.hid fun wx h => specLeastInPart_any wx (.agg #[.int .i64 g.1, .slice p g.2.length c]) g h
  have HNE := Lib.hid fun h : graphOk g = false => leastIn_no h
  have HYE := Lib.hid fun h : graphOk g = true => leastIn_is h
  have hdl := leastIn_length g
  generalize leastIn g = D at *
  refine HIM.out.mono ?_
  rintro e w3 ⟨s, rfl, hs, hb⟩
  obtain ⟨ax, cx, rfl, hcx, hcx2⟩ := Rd.form hs.rd
  have HX := Lib.hid hs.rd
  have hw23 := hb.size
  replace HB := Lib.hid (HB.out.tr hb); replace HR := Lib.hid (HR.out.keep hb); replace X := Lib.hid (box_keep X.out hb); clear hb hs HIM k0 k1
  have k0 := box_cell X.out 0 (.int .i64 g.1) rfl; have k1 := box_cell X.out 1 (.slice p g.2.length c) rfl
  go_wp2_with fail
  refine (HSP.out _ HR.out).mono ?_
  rintro e w4 ⟨s, rfl, hs, hb⟩
  obtain ⟨ay, cy, rfl, -, -⟩ := Rd.form hs.rd
  have HY := Lib.hid hs.rd
  have hw34 := hb.size
  replace HB := Lib.hid (HB.out.tr hb); replace HR := Lib.hid (HR.out.keep hb); replace X := Lib.hid (box_keep X.out hb); replace HX := Lib.hid (HX.out.keep hb); clear hb hs HSP k0 k1
  go_wp2_with fail
  refine (sameInts_same w4 _ _ D HX.out HY.out).mono ?_
  rintro e w5 ⟨rfl, hb⟩
  have hw45 := hb.size
  replace HB := Lib.hid (HB.out.tr hb); replace HR := Lib.hid (HR.out.keep hb); replace X := Lib.hid (box_keep X.out hb); replace HX := Lib.hid (HX.out.keep hb); clear hb HY
  have k0 := box_cell X.out 0 (.int .i64 g.1) rfl; have k1 := box_cell X.out 1 (.slice p g.2.length c) rfl
  go_wp2_with fail
  have HGV := Lib.hid (specGraphValid_any w5 _ g HR.out)
  cases hok : graphOk g
  · rw [hok] at HGV
    have hD := HNE.out hok
    subst hD
    refine HGV.out.mono ?_
    rintro e w6 ⟨rfl, hb⟩
    replace HB := Lib.hid (HB.out.tr hb); clear hb k0 k1 HNE HYE
    go_wp2_with fail
    refine (alive_any _).mono ?_
    rintro e w7 ⟨rfl, hb⟩
    replace HB := Lib.hid (HB.out.tr hb); clear hb
    go_wp2_with fail
    go_ret
    exact ⟨rfl, HB.out⟩
  rw [hok] at HGV
  have hgo := graphOk_yes hok
  have hD := HYE.out hok
  have hmm := hgo.1
  clear HNE HYE
  obtain ⟨m, ys⟩ := g
  simp only at hmm hc hlen
  obtain ⟨n, rfl⟩ := Int.eq_ofNat_of_zero_le hmm.1
  have hdn := hD.len
  simp only [Int.toNat_natCast] at hD hdn
  have hn16 : n ≤ 16 := by omega
  have HD := Lib.hid hD; clear hD
  have HED := Lib.hid fun k (hk : k < ys.length) => hgo.edge hk
  have HGM := Lib.hid fun k (hk : k < ys.length) => getD_inQ (d := triZ) hk
  have HNX : Hid (∀ a b : Nat, (∃ e ∈ ys, e.1 = (a : Int) ∧ e.2.1 = (b : Int)) → nearP ys a b = true) := Lib.hid fun a b ⟨e, he, h1, h2⟩ => by
    simp only [nearP, nextP, Bool.or_eq_true, List.any_eq_true, Bool.and_eq_true, decide_eq_true_eq]
    exact .inl ⟨e, he, h1, h2⟩
  simp only [Int.toNat_natCast] at HED
  clear hgo hok
  generalize nearP ys = f at *
  have HTR : Hid (Rd w5 3 (.slice p ys.length c) ys.length (tris ys)) := Lib.hid HR.out.eds9
  have HO9 := Lib.hid HTB.out
  clear HO9
  refine HGV.out.mono ?_
  rintro e w6 ⟨rfl, hb⟩
  have hw56 := hb.size
  replace HB := Lib.hid (HB.out.tr hb); replace HTR := Lib.hid (HTR.out.keep hb); replace X := Lib.hid (box_keep X.out hb); replace HX := Lib.hid (HX.out.keep hb); clear hb HGV k0 k1
  have hxc : Hid (∀ k, k < n → ∃ b o, ax = some ⟨b, o, none⟩ ∧ b < w6.heap.size ∧ w6.cell? ⟨b, o + k, none⟩ = some (.int .i64 (D.getD k 0))) := by
    have h1 := HX.out
    rw [← hdn] at *
    obtain ⟨a', c', hv, -, -, h3⟩ := h1.int
    simp only [Value.slice.injEq, true_and] at hv
    obtain ⟨rfl, rfl⟩ := hv
    exact h3
  generalize hdl' : D.length = dl at *
  subst hdn
  clear hdl' HX
  have k0 := box_cell X.out 0 _ rfl; have k1 := box_cell X.out 1 _ rfl
  clear HR
  generalize hll : ys.length = l at *
  clear hll
  go_wp2_with fail
  go_loopw [5] (fun i wr => ∃ k : Nat, k ≤ l ∧ i = .int .i64 k ∧ Hid (Below w6.heap.size w6 wr)) (fun i _ => l - (intOf i).toNat)
  case atStart => exact ⟨0, Nat.zero_le _, rfl, Lib.hid (Below.refl _ _)⟩
  case round =>
    obtain ⟨k, hk, rfl, HI⟩ := hrel
    have X2 := Lib.hid (box_keep X.out HI.out)
    have z0 := box_cell X2.out 0 _ rfl; have z1 := box_cell X2.out 1 _ rfl
    by_cases hkl : k < l
    · obtain ⟨b1, o1, rfl, hb1, q0, q1, -⟩ := (HTR.out.keep HI.out).tri hkl
      obtain ⟨a, b, ha, hb, han, hbn, -⟩ := HED.out k hkl
      have hfab := HNX.out a b ⟨_, HGM.out k hkl, ha, hb⟩
      have hxe := HD.out.edge a b hfab
      obtain ⟨bx, ox, rfl, hbx, ca⟩ := hxc.out a han
      obtain ⟨bx', ox', hbe, -, cb⟩ := hxc.out b hbn
      simp only [Option.some.injEq, Addr.mk.injEq, and_true] at hbe
      obtain ⟨rfl, rfl⟩ := hbe
      replace ca := (HI.out.cell (p := ⟨bx, ox + a, none⟩) hbx).trans ca
      replace cb := (HI.out.cell (p := ⟨bx, ox + b, none⟩) hbx).trans cb
      rw [ha] at q0; rw [hb] at q1; rw [hxe] at ca
      clear ha hb hfab hxe k0 k1
      generalize D.getD b 0 = y at *
      go_wp2_with fail
      go_quiet (fail)
      have hbz : Below wr.heap.size wr (wr.drewN nq) := (Below.refl _ _).drewN' _
      generalize wr.drewN nq = wz at *
      replace HI := Lib.hid (HI.out.tr hbz)
      clear hbz z0 z1 q0 q1 ca cb
      go_wp2_with fail
      go_roundw
      case rel => exact ⟨k + 1, by omega, by go_num, HI⟩
      case measure => simp [intOf]; omega
    · obtain rfl : k = l := by omega
      clear k0 k1
      go_wp2_with fail
      generalize wr = wz at *
      go_loopw [6] (fun i wr => ∃ v : Nat, v ≤ dl ∧ i = .int .i64 v ∧ Hid (Below w6.heap.size w6 wr)) (fun i _ => dl - (intOf i).toNat)
      case atStart => exact ⟨0, Nat.zero_le _, rfl, HI⟩
      case round =>
        clear HI X2 z0 z1
        obtain ⟨v, hv, rfl, HI⟩ := hrel
        by_cases hvl : v < dl
        · obtain ⟨h0, h1⟩ := HD.out.low v hvl
          have h2 := HD.out.own v hvl
          obtain ⟨u, hu⟩ := Int.eq_ofNat_of_zero_le h0
          rw [hu] at h1 h2
          rw [Int.toNat_natCast] at h2
          have huv : u ≤ v := by omega
          obtain ⟨bx, ox, rfl, hbx, ca⟩ := hxc.out v hvl
          obtain ⟨bx', ox', hbe, -, cb⟩ := hxc.out u (by omega)
          simp only [Option.some.injEq, Addr.mk.injEq, and_true] at hbe
          obtain ⟨rfl, rfl⟩ := hbe
          replace ca := (HI.out.cell (p := ⟨bx, ox + v, none⟩) hbx).trans ca
          replace cb := (HI.out.cell (p := ⟨bx, ox + u, none⟩) hbx).trans cb
          rw [hu] at ca; rw [h2] at cb
          have g0 := fun p => GrownW.cell (B := wr.heap.size) ca (World.block_lt_of_cell? _ _ ca) p; have g1 := fun p => GrownW.cell (B := wr.heap.size) cb (World.block_lt_of_cell? _ _ cb) p
          have t0 : decide ((u : Int) < 0) = false := by simp
          have t1 : decide (v < u) = false := by simpa using huv
          clear h0 h1 h2 hu ca cb
          go_wp2_with fail
          refine wp_region_grown wr.heap.size (by kernel_rfl) (by kernel_rfl) ?_
          repeat (go_big_quiet_step (fail))
          refine wpQuiet_done ?_
          intro wz hbz
          replace HI := Lib.hid (HI.out.tr hbz)
          clear hbz g0 g1 t0 t1
          go_wp2_with fail
          go_roundw
          case rel => exact ⟨v + 1, by omega, by go_num, HI⟩
          case measure => simp [intOf]; omega
        · obtain rfl : v = dl := by omega
          have HB9 := Lib.hid (HB.out.tr HI.out)
          go_wp2_with fail
          go_ret
          exact ⟨rfl, HB9.out⟩
set_option maxRecDepth 100000 in
theorem FnLeastInPart_met (os : Os) (args : Array Value) : laidMetH Tryd.prog [("math/bits.deBruijn32tab", Rows.laid_math_bits_deBruijn32tab)] ((World.doorLaid Tryd.prog 400 os).forCall (fun _ _ => 0) ⟨#[], args, []⟩).memory :=
  laidMetH_of_parts3 (fuel := 8) (laidMet_of_run' 8 (by kernel_rfl) (by kernel_rfl)) (by kernel_rfl) (by kernel_rfl)
set_option maxRecDepth 100000 in
theorem FnLeastInPart_lifted (os : Os) (started : os.Started) (H : Type) (enc : TypeId × Value → H) :
    ReturnsInHanded {} Tryd.checked os 5 .any (fun w args => (Rows.fnLeastInPartSpec.pre enc Tryd.prog Tryd.f5 [] false w args ∧ laidMetH Tryd.prog [("math/bits.deBruijn32tab", Rows.laid_math_bits_deBruijn32tab)] w) ∧ sizedMet enc Tryd.prog Tryd.f5 (OpenSpec.ofChange Rows.fnLeastInPartSpec) false w args)
      (Rows.fnLeastInPartSpec.post enc Tryd.prog Tryd.f5 false true false false) := by
  refine returnsInHanded_of_change_and (C := Tryd.checked) (X := fun w _ => laidMetH Tryd.prog [("math/bits.deBruijn32tab", Rows.laid_math_bits_deBruijn32tab)] w) (fun _ _ _ hh h => h.of_heap hh) tryOwn started (by kernel_rfl) Tryd.func5
    (ChangeSpec.witness_shaped (enc := enc) (C := Tryd.checked) (os := os) (X := fun w _ => laidMetH Tryd.prog [("math/bits.deBruijn32tab", Rows.laid_math_bits_deBruijn32tab)] w) false (World.doorLaid Tryd.prog 400 os) #[.slice none 0 0] 8 rfl (World.shaped_of_RefB (by kernel_rfl) (by kernel_rfl)) (by kernel_rfl) (by kernel_rfl) (by kernel_rfl) (FnLeastInPart_met os _)) ?_
  intro W base args ds gs before hval0 hW _ _ hL _
  have hval : ∀ (j : Nat) t v, Tryd.f5.params[j]? = some t → args[j]? = some v → Value.okWide Tryd.prog W .any base t v := hval0
  have hW' := hW
  obtain ⟨p, q, hA0, hV, rfl, hfz, hnd⟩ := hW
  have hA : DataW.TrodAll enc Tryd.prog W 0 (fun _ => true) true Tryd.f5.params.toList args.toList ds p := hA0
  rw [Tryd.params5] at hA hval
  obtain ⟨v0, vs0, d0, ds0, p0, q0, hargs, rfl, rfl, h0, r0⟩ := trodAll_cons hA
  obtain ⟨rfl, rfl, rfl⟩ := trodAll_nil r0
  obtain rfl : args = #[v0] := by cases args; simp_all
  obtain ⟨rfl, rfl⟩ := trodVars_none hV
  have k0 := h0
  have lt0 : ∀ x ∈ p0, x.block < W.heap.size := by obtain ⟨m, hm⟩ := k0; exact DataW.trod_lt m _ _ _ hm
  obtain ⟨c0, len0, cap0, rfl⟩ := okWide_slice Tryd.underlying39 (hval 0 39 v0 rfl rfl)
  obtain ⟨n0, x0, t0⟩ := trod_of rfl h0
  obtain ⟨xs0, w0, g0⟩ := trod_bytes Tryd.underlying39 Tryd.underlying5 (by kernel_rfl) t0
  clear hA0 hval0
  refine (FnLeastInPart_walk W _ xs0 w0 g0 (tab_of_laid hL)).mono fun e W' ⟨he, bel⟩ => ?_
  subst he
  exact ⟨_, rfl, _, _, _, [], _, [], hW', trodAll_mk1 (shut_bool Tryd.underlying4 _), (trodAll_cons_mk (Below.trod tryLaidOut (by kernel_rfl) (of_decide_eq_true (by kernel_rfl)) k0 bel lt0) trodAll_mk0), rfl, bel.frame _, fun h => by cases h⟩

set_option maxHeartbeats 4000000 in
set_option maxRecDepth 100000 in
theorem FnLeastInPart_holds : Rows.FnLeastInPartSaid := by
  refine OpenClaim.holds_of_wide 5 Tryd.f5 rfl rfl rfl rfl rfl rfl rfl ⟨rfl, rfl, rfl, rfl, rfl⟩ rfl rfl rfl rfl rfl ?hfn Tryd.func5 ?closed ?hinst ?hwrap (fun os started H enc _ => FnLeastInPart_lifted os started H enc)
  case hfn => as_aux_lemma => kernel_rfl
  case hinst => exact of_decide_eq_true (by as_aux_lemma => kernel_rfl)
  case hwrap => unfold Func.isWrapper; first | (rw [if_pos (by decide +kernel)]; kernel_rfl) | (rw [if_neg (by decide +kernel)]; exact ⟨rfl, rfl⟩)
  case closed =>
    simp only [joinedFacts, Bool.and_eq_true]
    repeat' apply And.intro
    all_goals first
      | with_reducible exact mayEnter_ok
      | (rewrite [liftsFinal_no]; as_aux_lemma => kernel_rfl)
      | (rewrite [make_cut]; as_aux_lemma => kernel_rfl)
      | as_aux_lemma => kernel_rfl

set_option maxRecDepth 100000 in
theorem FnLeastInPart_card : Rows.FnLeastInPartCardSaid := by
  refine Claim7.holds_tied_plain_at .later [] [.data] true (true, "aa143172c02fffba66903e69babc7d609952a345a85777f0e899e2f1d2be2e16") true
    FnLeastInPart_holds (fun _ h => by cases h) (by kernel_rfl) (fun _ h => by cases h) fnLeastInPart_row_tie rfl ⟨rfl, rfl⟩ (by kernel_rfl) rfl ?_ (by kernel_rfl)
  intro f fn hf hfn
  obtain rfl : f = 5 := Option.some.inj ((show Tryd.prog.funcNamed "loop.example/graphcluster/laws.FnLeastInPart" = some 5 by kernel_rfl).symm.trans hf) |>.symm
  obtain rfl : fn = Tryd.f5 := (Option.some.inj (Tryd.func5.symm.trans hfn)).symm
  refine ⟨by kernel_rfl, fun j t ht => ?_⟩
  rw [Tryd.params5] at ht
  have hm : t ∈ [39] := by simpa using Array.mem_of_getElem? ht
  have hall : ([39].all fun u => !Tryd.prog.wantsStandIn u) = true := by kernel_rfl
  exact (show Tryd.prog.wantsStandIn t = false by simpa using List.all_eq_true.1 hall t hm)
end Go.Proofs.YtobhekkgbccoiaaDoor
