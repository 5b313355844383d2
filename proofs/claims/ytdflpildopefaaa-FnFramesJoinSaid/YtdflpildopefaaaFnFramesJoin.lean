/-
  The frames of two lists of records, one behind the other, are those of both lists together: for every two codes: no condition.
-/
import Derived.Test.YtdflpildopefaaaArgs
import Derived.Test.YtdflpildopefaaaDrawJ
import Derived.Test.YtdflpildopefaaaJoin
import Derived.Test.YtdflpildopefaaaRowS
import Derived.Test.YtdflpildopefaaaFacts
namespace Go.Proofs.Ytdflpildopefaaa
open Go.ChangeShapes Go.WideShapes Go.ChangeAt Go.RowKit
set_option linter.unusedVariables false

theorem joinOk_left {ps qs : List (List Int)} (h : joinOk (ps ++ qs) = true) : joinOk ps = true ∧ joinOk qs = true := by
  simp only [joinOk, Bool.and_eq_true, List.all_eq_true, decide_eq_true_eq, joinL_append, List.length_append] at *
  exact ⟨⟨fun x hx => h.1 x (List.mem_append_left _ hx), by omega⟩, ⟨fun x hx => h.1 x (List.mem_append_right _ hx), by omega⟩⟩
theorem joinOk_both {ps qs : List (List Int)} (h1 : joinOk ps = true) (h2 : joinOk qs = true) (h : joinOk (ps ++ qs) = false) : 2000 < (joinB ps).length + (joinB qs).length := by
  rw [joinB_yes h1, joinB_yes h2]
  apply Nat.lt_of_not_le
  intro hle
  have : joinOk (ps ++ qs) = true := by
    simp only [joinOk, Bool.and_eq_true, List.all_eq_true, decide_eq_true_eq, joinL_append, List.length_append] at *
    refine ⟨fun x hx => ?_, hle⟩
    rcases List.mem_append.1 hx with h3 | h3
    · exact h1.1 x h3
    · exact h2.1 x h3
  rw [this] at h; cases h
theorem joinB_both {ps qs : List (List Int)} (h : joinOk (ps ++ qs) = true) : joinB (ps ++ qs) = joinB ps ++ joinB qs := by
  obtain ⟨h1, h2⟩ := joinOk_left h
  rw [joinB_yes h, joinB_yes h1, joinB_yes h2, joinL_append]
theorem few_append {ps qs : List (List Int)} (h1 : Few 24 ps) (h2 : Few 24 qs) : Few 48 (ps ++ qs) := by
  refine ⟨by rw [List.length_append]; have := h1.1; have := h2.1; omega, fun x hx => ?_⟩
  rcases List.mem_append.1 hx with h3 | h3
  · exact h1.2 x h3
  · exact h2.2 x h3
/-- Rows by their cells. -/
def Cells (w : World) (vs : List Value) (xss : List (List Int)) : Prop := vs.length = xss.length ∧ ∀ i, i < xss.length → ∃ u, vs[i]? = some u ∧ RdIntS w u (xss.getD i [])
theorem Cells.keep {w w' : World} {vs : List Value} {xss : List (List Int)} (h : Cells w vs xss) (hb : Below w.heap.size w w') : Cells w' vs xss :=
  ⟨h.1, fun i hi => by obtain ⟨u, hu, hr⟩ := h.2 i hi; exact ⟨u, hu, hr.keep hb⟩⟩
theorem Cells.append {w : World} {us vs : List Value} {ps qs : List (List Int)} (h : Cells w us ps) (k : Cells w vs qs) : Cells w (us ++ vs) (ps ++ qs) := by
  refine ⟨by simp [h.1, k.1], fun i hi => ?_⟩
  by_cases hi2 : i < ps.length
  · obtain ⟨u, hu, hr⟩ := h.2 i hi2
    refine ⟨u, by rw [List.getElem?_append_left (by rw [h.1]; exact hi2)]; exact hu, ?_⟩
    rw [show (ps ++ qs).getD i [] = ps.getD i [] from by simp [List.getElem?_append, hi2]]; exact hr
  · rw [List.length_append] at hi
    obtain ⟨u, hu, hr⟩ := k.2 (i - ps.length) (by omega)
    refine ⟨u, by rw [List.getElem?_append_right (by rw [h.1]; omega), h.1]; exact hu, ?_⟩
    rw [show (ps ++ qs).getD i [] = qs.getD (i - ps.length) [] from by simp [List.getElem?_append, hi2]]; exact hr
theorem Cells.one {w : World} {vs : List Value} {xss : List (List Int)} (h : Cells w vs xss) : ∀ u ∈ vs, u.oneCell' = true := by
  intro u hu
  obtain ⟨i, hi, rfl⟩ := List.mem_iff_getElem.1 hu
  obtain ⟨u', hu', hr⟩ := h.2 i (by rw [← h.1]; exact hi)
  rw [List.getElem?_eq_getElem hi] at hu'
  cases hu'
  obtain ⟨a, c, hv, _, _⟩ := hr.form
  rw [hv]; rfl
theorem RdIntSS.cells {w : World} {v : Value} {xss : List (List Int)} (h : RdIntSS w v xss) : ∃ vs, Rd w 1 v xss.length vs ∧ Cells w vs xss := by
  obtain ⟨vs, h1, h2⟩ := h
  exact ⟨vs, h1, by have := h1.1; omega, h2⟩

set_option maxRecDepth 100000 in
set_option maxHeartbeats 8000000 in
theorem FnFramesJoin_walk (w : World) (va : Value) (bs : List Int) (hv : Rd w 1 va bs.length (bys bs)) (hx : ∀ x ∈ bs, 0 ≤ x ∧ x ≤ 255) (vb : Value) (cs : List Int) (hvc : Rd w 1 vb cs.length (bys cs)) (hxc : ∀ x ∈ cs, 0 ≤ x ∧ x ≤ 255) :
    Calls Try.prog 4 #[va, vb] w fun e w' => e = .returned (.bool true) ∧ Below w.heap.size w w' := by
  have HDR := Lib.hid fun (wx : World) (h : Below w.heap.size w wx) => DrawJoinFrames_any wx va bs (hv.keep h) hx
  have HDC := Lib.hid fun (wx : World) (h : Below w.heap.size w wx) => DrawJoinFrames_any wx vb cs (hvc.keep h) hxc
  obtain ⟨hlb, av, acap, rfl, hcap, hmc, hcell⟩ := hv
  obtain ⟨hlc, bv, bcap, rfl, hcap2, hmc2, hcell2⟩ := hvc
  clear hlb hcap hmc hcell hx hlc hcap2 hmc2 hcell2 hxc
  by_cases hl : bs.length ≤ 1048576
  case neg =>
    have hl' : decide ((bs.length : Int) > 1048576) = true := by simp; omega
    go_enter Try.func4, Try.ntmps4
    go_wp2_with fail
    go_ret
    exact ⟨rfl, Below.refl _ _⟩
  case pos =>
  have hl' : decide ((bs.length : Int) > 1048576) = false := by simp; omega
  by_cases hk : cs.length ≤ 1048576
  case neg =>
    have hk' : decide ((cs.length : Int) > 1048576) = true := by simp; omega
    go_enter Try.func4, Try.ntmps4
    go_wp2_with fail
    go_ret
    exact ⟨rfl, Below.refl _ _⟩
  case pos =>
  have hk' : decide ((cs.length : Int) > 1048576) = false := by simp; omega
  clear hl hk
  go_enter Try.func4, Try.ntmps4
  go_wp2_with fail
  refine (HDR.out _ (Below.refl _ _)).mono ?_
  rintro e w1 ⟨v, ass, rfl, hr, hfa, hb1⟩
  have HB := Lib.hid hb1; have HA := Lib.hid hr
  obtain ⟨a, ca, rfl, hca, hma⟩ := hr.form
  clear hb1 HDR hl' hr
  go_wp2_with fail
  refine (HDC.out _ HB.out).mono ?_
  rintro e w2 ⟨v, bss, rfl, hr, hfb, hb2⟩
  replace HB := Lib.hid (HB.out.tr hb2); replace HA := Lib.hid (HA.out.keep hb2); have HBB := Lib.hid hr
  obtain ⟨b, cb, rfl, hcb, hmb⟩ := hr.form
  clear hb2 HDC hk' hr
  have hal := hfa.1; have hbl := hfb.1
  have HI := Lib.hid fun wx h => implJoinFrames_any wx (.slice a ass.length ca) ass h hfa.each
  have HSP := Lib.hid fun wx h => specJoinFrames_any wx (.slice a ass.length ca) ass h hfa.each
  have HIB := Lib.hid fun wx h => implJoinFrames_any wx (.slice b bss.length cb) bss h hfb.each
  have HIC := Lib.hid fun wx vx h => implJoinFrames_any wx vx (ass ++ bss) h (few_append hfa hfb).each
  unfold RetJ at HI HSP HIB HIC
  have hja := joinB_length ass; have hjb := joinB_length bss
  have H1 := Lib.hid (@joinOk_left ass bss); have H2 := Lib.hid (@joinOk_both ass bss); have H3 := Lib.hid (@joinB_both ass bss)
  have HLEN : Hid ((ass ++ bss).length = ass.length + bss.length) := Lib.hid (by simp)
  generalize hjoa : joinOk ass = ok at *
  generalize hjob : joinOk bss = good at *
  generalize hjoc : joinOk (ass ++ bss) = all at *
  clear hjoa hjob hjoc hfa hfb
  generalize joinB ass = xs at *
  generalize joinB bss = ys at *
  generalize joinB (ass ++ bss) = zs at *
  generalize hcss : ass ++ bss = css at *
  have HCSS := Lib.hid hcss; clear hcss
  generalize han : ass.length = an at *
  generalize hbn : bss.length = bn at *
  have HAN := Lib.hid han; have HBN := Lib.hid hbn; clear han hbn
  generalize hxn : xs.length = xn at *
  generalize hyn : ys.length = yn at *
  have HXN := Lib.hid hxn; have HYN := Lib.hid hyn; clear hxn hyn
  go_wp2_with fail
  refine (HI.out _ HA.out).mono ?_
  rintro e w3 ⟨v3, rfl, ho, hb⟩
  have ho := ho.rd
  rw [HXN.out] at ho
  have HX := Lib.hid ho; replace HB := Lib.hid (HB.out.tr hb); replace HA := Lib.hid (HA.out.keep hb); replace HBB := Lib.hid (HBB.out.keep hb)
  obtain ⟨a3, c3, rfl, hc3, hm3⟩ := ho.form
  clear ho hb
  go_wp2_with fail
  refine (HSP.out _ HA.out).mono ?_
  rintro e w4 ⟨v4, rfl, ho, hb⟩
  have ho := ho.rd
  rw [HXN.out] at ho
  have HX4 := Lib.hid ho; replace HB := Lib.hid (HB.out.tr hb); replace HA := Lib.hid (HA.out.keep hb); replace HBB := Lib.hid (HBB.out.keep hb); replace HX := Lib.hid (HX.out.keep hb)
  obtain ⟨a4, c4, rfl, hc4, hm4⟩ := ho.form
  clear ho hb HI HSP
  go_wp2_with fail
  refine (sameInts_same _ _ _ xs (by rw [HXN.out]; exact HX.out) (by rw [HXN.out]; exact HX4.out)).mono ?_
  rintro e w5 ⟨rfl, hb⟩
  replace HB := Lib.hid (HB.out.tr hb); replace HA := Lib.hid (HA.out.keep hb); replace HBB := Lib.hid (HBB.out.keep hb); replace HX := Lib.hid (HX.out.keep hb); clear hb HX4
  go_wp2_with fail
  refine (HIB.out _ HBB.out).mono ?_
  rintro e w6 ⟨v6, rfl, ho, hb⟩
  have ho := ho.rd
  rw [HYN.out] at ho
  have HY := Lib.hid ho; replace HB := Lib.hid (HB.out.tr hb); replace HA := Lib.hid (HA.out.keep hb); replace HBB := Lib.hid (HBB.out.keep hb); replace HX := Lib.hid (HX.out.keep hb)
  obtain ⟨a6, c6, rfl, hc6, hm6⟩ := ho.form
  clear ho hb HIB
  obtain ⟨us, hu1, hu2⟩ := HA.out.cells
  obtain ⟨vs, hv1, hv2⟩ := HBB.out.cells
  rw [HAN.out] at hu1; rw [HBN.out] at hv1
  have HU1 := Lib.hid hu1; have HU2 := Lib.hid hu2; have HV1 := Lib.hid hv1; have HV2 := Lib.hid hv2
  have HUO := Lib.hid hu2.one; have HVO := Lib.hid hv2.one
  clear hu1 hu2 hv1 hv2 HA HBB
  go_wp2_with (first
    | (at_builtin; refine wpList_pushAllB rfl _ _ 30 23 rfl (.slice none 0 0) 1 24 Try.underlying30 infoRow rfl (by decide) (by decide) w6.heap.size _ 0 [] (World.ownsRow_made (size := 1) w6 #[] 0 (Nat.le_refl _) (by decide) rfl) rfl (.slice a an ca) an us (HU1.out.keep ((Below.refl _ _).alloc (Nat.le_refl _) _)) rfl HUO.out (by omega) (by omega) (by simp) ?_; intro v7 w7 hown7 hbel7 hne7; have HO7 := Lib.hid hown7; have HB7 := Lib.hid ((Below.refl w6.heap.size w6).alloc (Nat.le_refl _) (.cells #[] 23) |>.trans hbel7); have hw7 := HB7.out.size; clear hown7 hbel7 hne7)
    | (at_builtin; refine wpList_pushAllB rfl _ _ 30 23 rfl (.slice none 0 0) 1 24 Try.underlying30 infoRow rfl (by decide) (by decide) w6.heap.size _ _ _ HO7.out rfl (.slice b bn cb) bn vs (HV1.out.keep HB7.out) rfl HVO.out (by omega) (by omega) hw7 ?_; intro v8 w8 hown8 hbel8 hne8; have HO8 := Lib.hid hown8; have HB8 := Lib.hid (HB7.out.trans hbel8); clear hown8 hbel8 hne8))
  have HRC : Hid (RdIntSS w8 v8 css) := Lib.hid (by
    refine ⟨us ++ vs, ?_, ?_⟩
    · have h := Rd.of_own HO8.out
      rw [Nat.zero_add, List.nil_append] at h
      rw [HLEN.out]; exact h
    · rw [← HCSS.out]; exact ((HU2.out.keep HB8.out).append (HV2.out.keep HB8.out)).2)
  replace HB := Lib.hid (HB.out.tr HB8.out); replace HX := Lib.hid (HX.out.keep HB8.out); replace HY := Lib.hid (HY.out.keep HB8.out)
  clear HO8 HO7 HB7 HU1 HU2 HV1 HV2 HUO HVO
  refine (HIC.out _ _ HRC.out).mono ?_
  rintro e w9 ⟨v9, rfl, ho, hb⟩
  have ho := ho.rd
  have HZ := Lib.hid ho; replace HB := Lib.hid (HB.out.tr hb); replace HX := Lib.hid (HX.out.keep hb); replace HY := Lib.hid (HY.out.keep hb)
  obtain ⟨a9, c9, rfl, hc9, hm9⟩ := ho.form
  clear ho hb HIC HRC
  cases all
  · have t : ok = true → good = true → decide ((xn : Int) + (yn : Int) > 2000) = true := fun h1 h2 => by
      have := H2.out h1 h2 rfl
      simp; omega
    have T := Lib.hid t
    clear t H1 H2 H3
    cases ok
    · go_wp2_with fail
      refine (alive_any _).mono ?_
      rintro e w10 ⟨rfl, hb⟩
      replace HB := Lib.hid (HB.out.tr hb); clear hb
      go_wp2_with fail
      go_ret
      exact ⟨rfl, HB.out⟩
    · cases good
      · go_wp2_with fail
        refine (alive_any _).mono ?_
        rintro e w10 ⟨rfl, hb⟩
        replace HB := Lib.hid (HB.out.tr hb); clear hb
        go_wp2_with fail
        go_ret
        exact ⟨rfl, HB.out⟩
      · have t := T.out rfl rfl
        go_wp2_with fail
        refine (alive_any _).mono ?_
        rintro e w10 ⟨rfl, hb⟩
        replace HB := Lib.hid (HB.out.tr hb); clear hb
        go_wp2_with fail
        go_ret
        exact ⟨rfl, HB.out⟩
  · obtain ⟨rfl, rfl⟩ := H1.out rfl
    have hzs := H3.out rfl
    have HZS := Lib.hid hzs
    clear hzs H1 H2 H3
    have hzn : zs.length = xn + yn := by rw [HZS.out, List.length_append, HXN.out, HYN.out]
    have HZN := Lib.hid hzn; clear hzn
    rw [HZN.out] at hc9
    have hZ := HZ.out
    rw [HZN.out] at hZ ⊢
    replace HZ := Lib.hid hZ; clear hZ
    go_wp2_with (first
      | (at_builtin; refine wpList_pushAllB rfl _ _ 23 3 rfl (.int .i64 0) 1 8 Try.underlying23 infoInt rfl (by decide) (by decide) w9.heap.size _ 0 [] (World.ownsRow_made (size := 1) w9 #[] 0 (Nat.le_refl _) (by decide) rfl) rfl (.slice a3 xn c3) xn (ints xs) (HX.out.keep ((Below.refl _ _).alloc (Nat.le_refl _) _)) rfl (ints_one xs) (by omega) (by omega) (by simp) ?_; intro v7 w7 hown7 hbel7 hne7; have HO7 := Lib.hid hown7; have HB7 := Lib.hid ((Below.refl w9.heap.size w9).alloc (Nat.le_refl _) (.cells #[] 3) |>.trans hbel7); have hw7 := HB7.out.size; clear hown7 hbel7 hne7)
      | (at_builtin; refine wpList_pushAllB rfl _ _ 23 3 rfl (.int .i64 0) 1 8 Try.underlying23 infoInt rfl (by decide) (by decide) w9.heap.size _ _ _ HO7.out rfl (.slice a6 yn c6) yn (ints ys) (HY.out.keep HB7.out) rfl (ints_one ys) (by omega) (by omega) hw7 ?_; intro v8 w11 hown8 hbel8 hne8; have HO8 := Lib.hid hown8; have HB8 := Lib.hid (HB7.out.trans hbel8); clear hown8 hbel8 hne8))
    have HR8 : Hid (Rd w11 1 v8 zs.length (ints zs)) := Lib.hid (by
      have h := Rd.of_own HO8.out
      rw [Nat.zero_add, List.nil_append, ← ints_append, ← HZS.out] at h
      rw [HZN.out]; exact h)
    replace HB := Lib.hid (HB.out.tr HB8.out); replace HZ := Lib.hid (HZ.out.keep HB8.out)
    refine (sameInts_same _ _ _ zs (by rw [HZN.out]; exact HZ.out) HR8.out).mono ?_
    rintro e w12 ⟨rfl, hb⟩
    replace HB := Lib.hid (HB.out.tr hb); clear hb
    go_wp2_with fail
    refine (alive_any _).mono ?_
    rintro e w10 ⟨rfl, hb⟩
    replace HB := Lib.hid (HB.out.tr hb); clear hb
    go_wp2_with fail
    go_ret
    exact ⟨rfl, HB.out⟩
set_option maxRecDepth 100000 in
theorem FnFramesJoin_lifted (os : Os) (started : os.Started) (H : Type) (enc : TypeId × Value → H) :
    ReturnsInHanded {} Try.checked os 4 .any (Rows.fnFramesJoinSpec.pre6 enc Try.prog Try.f4 Rows.fnFramesJoinRow.domain false) (Rows.fnFramesJoinSpec.post enc Try.prog Try.f4 false true false false) := by
  refine returnsInHanded_of_change (C := Try.checked) tryOwn started (by kernel_rfl) Try.func4
    (ChangeSpec.witness6 (enc := enc) (C := Try.checked) false ⟨#[], #[.slice none 0 0, .slice none 0 0], []⟩ 8 (by kernel_rfl) (by kernel_rfl) (by kernel_rfl) (by kernel_rfl)) ?_
  intro W base args ds gs before hval0 hW hcnd _
  have hval : ∀ (j : Nat) t v, Try.f4.params[j]? = some t → args[j]? = some v → Value.okWide Try.prog W .any base t v := hval0
  have hW' := hW
  obtain ⟨p, q, hA0, hV, rfl, hfz, hnd⟩ := hW
  have hA : DataW.TrodAll enc Try.prog W 0 (fun _ => true) true Try.f4.params.toList args.toList ds p := hA0
  rw [Try.params4] at hA hval
  obtain ⟨v0, vs0, d0, ds0, p0, q0, hargs, rfl, rfl, h0, r0⟩ := trodAll_cons hA
  obtain ⟨v1, vs1, d1, ds1, p1, q1, rfl, rfl, rfl, h1, r1⟩ := trodAll_cons r0
  obtain ⟨rfl, rfl, rfl⟩ := trodAll_nil r1
  obtain rfl : args = #[v0, v1] := by cases args; simp_all
  obtain ⟨rfl, rfl⟩ := trodVars_none hV
  have k0 := h0
  have lt0 : ∀ x ∈ p0, x.block < W.heap.size := by obtain ⟨m, hm⟩ := k0; exact DataW.trod_lt m _ _ _ hm
  obtain ⟨c0, len0, cap0, rfl⟩ := okWide_slice Try.underlying22 (hval 0 22 v0 rfl rfl)
  obtain ⟨n0, x0, t0⟩ := trod_of rfl h0
  obtain ⟨xs0, w0, g0⟩ := trod_bytes Try.underlying22 Try.underlying5 (by kernel_rfl) t0
  have k1 := h1
  have lt1 : ∀ x ∈ p1, x.block < W.heap.size := by obtain ⟨m, hm⟩ := k1; exact DataW.trod_lt m _ _ _ hm
  obtain ⟨c1, len1, cap1, rfl⟩ := okWide_slice Try.underlying22 (hval 1 22 v1 rfl rfl)
  obtain ⟨n1, x1, t1⟩ := trod_of rfl h1
  obtain ⟨xs1, w1, g1⟩ := trod_bytes Try.underlying22 Try.underlying5 (by kernel_rfl) t1
  clear hA0 hval0
  refine (FnFramesJoin_walk W _ xs0 w0 g0 _ xs1 w1 g1).mono fun e W' ⟨he, bel⟩ => ?_
  subst he
  exact ⟨_, rfl, _, _, _, [], _, [], hW', trodAll_mk1 (shut_bool Try.underlying4 _), (trodAll_cons_mk (Below.trod tryLaidOut (by kernel_rfl) (of_decide_eq_true (by kernel_rfl)) k0 bel lt0) (trodAll_cons_mk (Below.trod tryLaidOut (by kernel_rfl) (of_decide_eq_true (by kernel_rfl)) k1 bel lt1) trodAll_mk0)), rfl, bel.frame _, fun h => by cases h⟩

set_option maxHeartbeats 4000000 in
set_option maxRecDepth 100000 in
theorem FnFramesJoin_holds : Rows.FnFramesJoinSaid := by
  refine OpenClaim.holds_of_wide 4 Try.f4 rfl rfl rfl rfl rfl rfl rfl ⟨rfl, rfl, rfl, rfl, rfl⟩ rfl rfl rfl rfl rfl ?hfn Try.func4 ?closed ?hinst ?hwrap (fun os started H enc _ => FnFramesJoin_lifted os started H enc)
  case hfn => as_aux_lemma => kernel_rfl
  case hinst => exact of_decide_eq_true (by as_aux_lemma => kernel_rfl)
  case hwrap => unfold Func.isWrapper; first | (rw [if_pos (by decide +kernel)]; kernel_rfl) | (rw [if_neg (by decide +kernel)]; exact ⟨rfl, rfl⟩)
  case closed =>
    simp only [joinedFacts, Bool.and_eq_true]
    repeat' apply And.intro
    all_goals first
      | with_reducible exact mayEnter_ok
      | (rewrite [liftsFinal_no]; as_aux_lemma => kernel_rfl)
      | (rewrite [make_cut]; as_aux_lemma => kernel_rfl)
      | as_aux_lemma => kernel_rfl
end Go.Proofs.Ytdflpildopefaaa
