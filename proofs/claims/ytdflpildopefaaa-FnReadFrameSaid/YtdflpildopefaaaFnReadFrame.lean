/-
  Accepted frames are frames: FrameOf of the record are the bytes between both places: for every code: no condition.
-/
import Derived.Test.YtdflpildopefaaaArgs
import Derived.Test.YtdflpildopefaaaDrawR
import Derived.Test.YtdflpildopefaaaReadF
import Derived.Test.YtdflpildopefaaaScanP
import Derived.Test.YtdflpildopefaaaSame
import Derived.Deep.RegionHeld3
import Derived.Test.YtdflpildopefaaaFacts
namespace Go.Proofs.Ytdflpildopefaaa
open Go.ChangeShapes Go.WideShapes Go.ChangeAt Go.RowKit
set_option linter.unusedVariables false

/-- What was read, and where it stands. -/
theorem readF_some {xs : List Int} {p : Int} {b : List Int} {q : Nat} (h : readF xs p = some (b, q)) : ∃ n : Nat, p = (n : Int) ∧ bodyOk b = true ∧ n < q ∧ q ≤ xs.length ∧ q = n + b.length + 2 ∧ (frameOf b).length = q - n ∧ partOf xs n (q - n) = frameOf b := by
  unfold readF at h
  split at h
  · rename_i hh
    obtain ⟨h1, h2⟩ := hh
    obtain ⟨n, rfl⟩ := Int.eq_ofNat_of_zero_le h2
    rw [Int.toNat_natCast] at h
    have hl := frameAt_length h
    obtain ⟨hb, ht⟩ := frameAt_frame h1 h
    refine ⟨n, rfl, hb, hl.2.2.2.1, hl.2.2.1, hl.2.2.2.2, by rw [frameOf_len hb]; omega, ?_⟩
    have e1 : (xs.take q).drop n = frameOf b := by
      rw [ht, List.drop_append, List.length_take, Nat.min_eq_left (by omega), Nat.sub_self, List.drop_zero, List.drop_of_length_le (by rw [List.length_take]; omega), List.nil_append]
    rw [partOf, ← e1, List.drop_take]
  · cases h

set_option maxRecDepth 100000 in
set_option maxHeartbeats 4000000 in
theorem FnReadFrame_walk (w : World) (va : Value) (bs : List Int) (hv : Rd w 1 va bs.length (bys bs)) (hx : ∀ x ∈ bs, 0 ≤ x ∧ x ≤ 255) :
    Calls Try.prog 7 #[va] w fun e w' => e = .returned (.bool true) ∧ Below w.heap.size w w' := by
  have HDR := Lib.hid (DrawReadFrame_any w va bs hv hx)
  obtain ⟨hlb, av, acap, rfl, hcap, hmc, hcell⟩ := hv
  clear hlb hcap hmc hcell hx
  by_cases hl : bs.length ≤ 1048576
  case neg =>
    have hl' : decide ((bs.length : Int) > 1048576) = true := by simp; omega
    go_enter Try.func7, Try.ntmps7
    go_wp2_with fail
    go_ret
    exact ⟨rfl, Below.refl _ _⟩
  case pos =>
  have hl' : decide ((bs.length : Int) > 1048576) = false := by simp; omega
  go_enter Try.func7, Try.ntmps7
  go_wp2_with fail
  refine HDR.out.mono ?_
  rintro e w1 ⟨v, xs, p, rfl, hr, hlen, hp, hb1⟩
  have HB := Lib.hid hb1; have HR := Lib.hid hr
  obtain ⟨a, ca, rfl, hca, hma⟩ := hr.form
  clear hb1 HDR hl hl' hr
  have HI := Lib.hid fun wx h => implReadFrame_any wx (.slice a xs.length ca) xs p h (by omega) hp
  have HSP := Lib.hid fun wx h => specReadFrame_any wx (.slice a xs.length ca) xs p h (by omega) hp
  have hbl := rfBody_length xs p
  unfold RetF at HI HSP
  cases hrf : readF xs p with
  | none =>
    rw [hrf] at HI HSP
    have e1 : rfNext none = 0 := rfl
    have e2 : rfBody none = [] := rfl
    rw [e1, e2] at HI HSP
    clear hrf hbl hp e1 e2
    go_wp2_with fail
    refine (HI.out _ HR.out).mono ?_
    rintro e w2 ⟨v2, rfl, ho2, hb2⟩
    have HO := Lib.hid ho2.rd; replace HB := Lib.hid (HB.out.tr hb2); replace HR := Lib.hid (HR.out.keep hb2)
    obtain ⟨a2, c2, rfl, hc2, hm2⟩ := ho2.rd.form
    clear ho2 hb2
    go_wp2_with fail
    refine (HSP.out _ HR.out).mono ?_
    rintro e w3 ⟨v3, rfl, ho3, hb3⟩
    have HO3 := Lib.hid ho3.rd; replace HB := Lib.hid (HB.out.tr hb3); replace HO := Lib.hid (HO.out.keep hb3)
    obtain ⟨a3, c3, rfl, hc3, hm3⟩ := ho3.rd.form
    clear ho3 hb3 HI HSP HR
    go_wp2_with fail
    refine (sameInts_same _ _ _ _ HO.out HO3.out).mono ?_
    rintro e w4 ⟨rfl, hb4⟩
    replace HB := Lib.hid (HB.out.tr hb4); clear hb4 HO3 HO
    go_wp2_with fail
    refine (alive_any _).mono ?_
    rintro e w5 ⟨rfl, hb5⟩
    replace HB := Lib.hid (HB.out.tr hb5); clear hb5
    go_wp2_with fail
    go_ret
    exact ⟨rfl, HB.out⟩
  | some f =>
    obtain ⟨body, q⟩ := f
    obtain ⟨m, rfl, hok, hmq, hqn, hq, hfl, hpart⟩ := readF_some hrf
    rw [hrf] at HI HSP hbl
    have e1 : rfNext (some (body, q)) = (q : Int) := rfl
    have e2 : rfBody (some (body, q)) = body := rfl
    rw [e1, e2] at HI HSP
    rw [e2] at hbl
    simp only [Option.isSome_some] at HI HSP
    have HF := Lib.hid fun wx vx h => implFrameOf_any wx vx body h (by omega)
    clear hrf hp e1 e2 hok hq
    generalize frameOf body = fr at *
    have HFL := Lib.hid hfl; have HPART := Lib.hid hpart; clear hfl hpart
    generalize hbn : body.length = bn at *
    have HBN := Lib.hid hbn; clear hbn
    generalize hxn : xs.length = n at *
    have HXN := Lib.hid hxn; clear hxn
    go_wp2_with fail
    refine (HI.out _ HR.out).mono ?_
    rintro e w2 ⟨v2, rfl, ho2, hb2⟩
    have ho2 := ho2.rd
    have HO := Lib.hid ho2; replace HB := Lib.hid (HB.out.tr hb2); replace HR := Lib.hid (HR.out.keep hb2)
    obtain ⟨a2, c2, rfl, hc2, hm2⟩ := ho2.form
    clear ho2 hb2
    go_wp2_with fail
    refine (HSP.out _ HR.out).mono ?_
    rintro e w3 ⟨v3, rfl, ho3, hb3⟩
    have ho3 := ho3.rd
    have HO3 := Lib.hid ho3; replace HB := Lib.hid (HB.out.tr hb3); replace HO := Lib.hid (HO.out.keep hb3); replace HR := Lib.hid (HR.out.keep hb3)
    obtain ⟨a3, c3, rfl, hc3, hm3⟩ := ho3.form
    clear ho3 hb3 HI HSP
    go_wp2_with fail
    refine (sameInts_same _ _ _ body (by rw [HBN.out]; exact HO.out) (by rw [HBN.out]; exact HO3.out)).mono ?_
    rintro e w4 ⟨rfl, hb4⟩
    replace HB := Lib.hid (HB.out.tr hb4); replace HO := Lib.hid (HO.out.keep hb4); replace HR := Lib.hid (HR.out.keep hb4); clear hb4 HO3
    obtain ⟨b1, o1, rfl, hb1, -⟩ := HR.out.at_ (k := m) (by omega)
    have HS := Lib.hid (HR.out.sub m (q - m) (by omega))
    replace HF := Lib.hid fun wx (h : Below w4.heap.size w4 wx) => HF.out wx (.slice a2 bn c2) (HO.out.keep h)
    clear HR HO
    have t1 : decide ((m : Int) ≥ 0) = true := by simp
    have t2 : decide ((q : Int) ≤ (n : Int)) = true := by simp; omega
    have t3 : decide ((m : Int) < (q : Int)) = true := by simp; omega
    have i1 : (0 : Int) ≤ (m : Int) := by omega
    have i2 : (m : Int) ≤ (q : Int) := by omega
    have i3 : (q : Int) ≤ (ca : Int) := by omega
    have hm : Try.prog.follows .mixedOrders = true := by kernel_rfl
    go_wp2_with fail
    go_region_held3 (fun _ => True) (trivial) (first
      | (go_at_call 38; refine (HF.out _ ((Below.refl _ _).drew)).mono ?_; rintro e w5 ⟨v5, rfl, ho5, hb5⟩; have HFR := Lib.hid ho5.rd; have HB5 := Lib.hid ((Below.refl w4.heap.size w4).drew.trans hb5); clear ho5 hb5)
      | (go_at_call 23; refine (sameInts_same _ _ _ fr HFR.out (by have h := HS.out.keep HB5.out; rw [HFL.out, ← HPART.out]; exact h)).mono ?_; rintro e w6 ⟨rfl, hb6⟩; have HB6 := Lib.hid (HB5.out.tr hb6); clear hb6))
    go_wp2_with fail
    go_ret
    exact ⟨rfl, HB.out.tr HB6.out⟩
set_option maxRecDepth 100000 in
theorem FnReadFrame_lifted (os : Os) (started : os.Started) (H : Type) (enc : TypeId × Value → H) :
    ReturnsInHanded {} Try.checked os 7 .any (Rows.fnReadFrameSpec.pre6 enc Try.prog Try.f7 Rows.fnReadFrameRow.domain false) (Rows.fnReadFrameSpec.post enc Try.prog Try.f7 false true false false) := by
  refine returnsInHanded_of_change (C := Try.checked) tryOwn started (by kernel_rfl) Try.func7
    (ChangeSpec.witness6 (enc := enc) (C := Try.checked) false ⟨#[], #[.slice none 0 0], []⟩ 8 (by kernel_rfl) (by kernel_rfl) (by kernel_rfl) (by kernel_rfl)) ?_
  intro W base args ds gs before hval0 hW hcnd _
  have hval : ∀ (j : Nat) t v, Try.f7.params[j]? = some t → args[j]? = some v → Value.okWide Try.prog W .any base t v := hval0
  have hW' := hW
  obtain ⟨p, q, hA0, hV, rfl, hfz, hnd⟩ := hW
  have hA : DataW.TrodAll enc Try.prog W 0 (fun _ => true) true Try.f7.params.toList args.toList ds p := hA0
  rw [Try.params7] at hA hval
  obtain ⟨v0, vs0, d0, ds0, p0, q0, hargs, rfl, rfl, h0, r0⟩ := trodAll_cons hA
  obtain ⟨rfl, rfl, rfl⟩ := trodAll_nil r0
  obtain rfl : args = #[v0] := by cases args; simp_all
  obtain ⟨rfl, rfl⟩ := trodVars_none hV
  have k0 := h0
  have lt0 : ∀ x ∈ p0, x.block < W.heap.size := by obtain ⟨m, hm⟩ := k0; exact DataW.trod_lt m _ _ _ hm
  obtain ⟨c0, len0, cap0, rfl⟩ := okWide_slice Try.underlying22 (hval 0 22 v0 rfl rfl)
  obtain ⟨n0, x0, t0⟩ := trod_of rfl h0
  obtain ⟨xs0, w0, g0⟩ := trod_bytes Try.underlying22 Try.underlying5 (by kernel_rfl) t0
  clear hA0 hval0
  refine (FnReadFrame_walk W _ xs0 w0 g0).mono fun e W' ⟨he, bel⟩ => ?_
  subst he
  exact ⟨_, rfl, _, _, _, [], _, [], hW', trodAll_mk1 (shut_bool Try.underlying4 _), (trodAll_cons_mk (Below.trod tryLaidOut (by kernel_rfl) (of_decide_eq_true (by kernel_rfl)) k0 bel lt0) trodAll_mk0), rfl, bel.frame _, fun h => by cases h⟩

set_option maxHeartbeats 4000000 in
set_option maxRecDepth 100000 in
theorem FnReadFrame_holds : Rows.FnReadFrameSaid := by
  refine OpenClaim.holds_of_wide 7 Try.f7 rfl rfl rfl rfl rfl rfl rfl ⟨rfl, rfl, rfl, rfl, rfl⟩ rfl rfl rfl rfl rfl ?hfn Try.func7 ?closed ?hinst ?hwrap (fun os started H enc _ => FnReadFrame_lifted os started H enc)
  case hfn => as_aux_lemma => kernel_rfl
  case hinst => exact of_decide_eq_true (by as_aux_lemma => kernel_rfl)
  case hwrap => unfold Func.isWrapper; first | (rw [if_pos (by decide +kernel)]; kernel_rfl) | (rw [if_neg (by decide +kernel)]; exact ⟨rfl, rfl⟩)
  case closed =>
    simp only [joinedFacts, Bool.and_eq_true]
    repeat' apply And.intro
    all_goals first
      | with_reducible exact mayEnter_ok
      | (rewrite [liftsFinal_no]; as_aux_lemma => kernel_rfl)
      | (rewrite [make_cut]; as_aux_lemma => kernel_rfl)
      | as_aux_lemma => kernel_rfl
end Go.Proofs.Ytdflpildopefaaa
