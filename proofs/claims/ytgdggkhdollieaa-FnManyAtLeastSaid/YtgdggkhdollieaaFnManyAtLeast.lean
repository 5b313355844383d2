/-
  So many are at least so great; one more is too many; without a number it is at most as great, and at most 1 less: for every code: no condition.
-/
import Derived.Test.YtgdggkhdollieaaArgs
import Derived.Test.YtgdggkhdollieaaDraws
import Derived.Test.YtgdggkhdollieaaMany
import Derived.Test.YtgdggkhdollieaaBytes
import Derived.Test.YtgdggkhdollieaaFacts
namespace Go.Proofs.Ytgdggkhdollieaa
open Go.ChangeShapes Go.WideShapes Go.ChangeAt Go.RowKit
set_option linter.unusedVariables false

set_option maxRecDepth 100000 in
set_option maxHeartbeats 4000000 in
theorem FnManyAtLeast_walk (w : World) (va : Value) (bs : List Int) (hv : Rd w 1 va bs.length (bys bs)) (hx : ∀ x ∈ bs, 0 ≤ x ∧ x ≤ 255) :
    Calls Try.prog 3 #[va] w fun e w' => e = .returned (.bool true) ∧ Below w.heap.size w w' := by
  have HDR := Lib.hid (DrawManyAtLeast_any w va bs hv hx)
  obtain ⟨hlb, av, acap, rfl, hcap, hmc, hcell⟩ := hv
  clear hlb hcap hmc hcell hx
  by_cases hl : bs.length ≤ 1048576
  · have hl' : decide ((bs.length : Int) > 1048576) = false := by simp; omega
    go_enter Try.func3, Try.ntmps3
    go_wp2_with fail
    refine HDR.out.mono ?_
    rintro e w1 ⟨v, xs, rfl, ho, hlen, hwf, hb⟩
    have HR := Lib.hid (Rd.of_own ho).of_eq
    have HB := Lib.hid hb
    clear hb hwf HDR hl hl'
    have hxl : xs.length ≤ 8 := hlen.1
    obtain ⟨a, c, rfl, hc, hm, H⟩ := Rd.int HR.out
    clear ho hlen
    go_wp2_with fail
    refine (implManyAtLeast_any _ _ xs HR.out (by omega)).mono ?_
    rintro e w2 ⟨⟨n, rfl, hn⟩, hb⟩
    have HN := Lib.hid hn
    replace HB := Lib.hid (HB.out.tr hb); replace HR := Lib.hid (HR.out.keep hb); clear hb hn H
    go_wp2_with fail
    refine (specManyAtLeast_any _ _ xs HR.out (by omega)).mono ?_
    rintro e w3 ⟨⟨n', rfl, hn⟩, hb⟩
    obtain rfl := HN.out.unique hn
    replace HB := Lib.hid (HB.out.tr hb); replace HR := Lib.hid (HR.out.keep hb); clear hb hn
    obtain ⟨a', c', hvv, -, -, H⟩ := Rd.int HR.out
    simp only [Value.slice.injEq, true_and] at hvv
    obtain ⟨rfl, rfl⟩ := hvv
    have hnl : n ≤ 8 := by have := HN.out.le; omega
    have HC1 := Lib.hid fun k h => cntGe_take xs n k h
    have HC2 := Lib.hid fun k h => cntGe_take xs (n + 1) k h
    have HL1 := Lib.hid fun k => cntGe_take_le xs n k
    have HL2 := Lib.hid fun k => cntGe_take_le xs (n + 1) k
    have HALL : Hid (xs.take xs.length = xs) := Lib.hid (List.take_of_length_le (Nat.le_refl _))
    have HMA := Lib.hid HN.out.many; have HCN := Lib.hid HN.out.cnt
    have HTL : Hid (∀ m, IsMany (xs.drop 1) m → xs.length ≠ 0 → m ≤ n ∧ n ≤ m + 1) := Lib.hid fun m hm h0 => by
      cases xs with
      | nil => exact absurd rfl h0
      | cons x xs => exact HN.out.tail hm
    have CTL := Lib.hid fun wx vx h => implManyAtLeast_any wx vx (xs.drop 1) h (by rw [List.length_drop]; omega)
    have HDL : Hid ((xs.drop 1).length = xs.length - 1) := Lib.hid (List.length_drop ..)
    have HSB : Hid (∀ (wx : World) (b off cap : Nat), Rd wx 1 (.slice (some ⟨b, off, none⟩) xs.length cap) xs.length (ints xs) → 0 < xs.length → RdIntS wx (.slice (some ⟨b, off + 1, none⟩) (xs.length - 1) (cap - 1)) (xs.drop 1)) := Lib.hid fun wx b off cap h h0 => by
      have := h.sub 1 (xs.length - 1) (by omega)
      rw [List.take_of_length_le (by rw [List.length_drop]; omega)] at this
      unfold RdIntS
      rw [List.length_drop]; exact this
    generalize hln : xs.length = l at *
    clear hln HN
    go_wp2_with fail
    go_loopw [5, 6, 7] (fun p q i wr => ∃ k : Nat, k ≤ l ∧ i = .int .i64 k ∧ p = .int .i64 ((cntGe (xs.take k) n : Nat) : Int) ∧ q = .int .i64 ((cntGe (xs.take k) (n + 1) : Nat) : Int) ∧ w3 = wr) (fun _ _ i _ => l - (intOf i).toNat)
    case atStart => exact ⟨0, Nat.zero_le _, rfl, by simp [cntGe], by simp [cntGe], rfl⟩
    case round =>
      obtain ⟨k, hk, rfl, rfl, rfl, rfl⟩ := hrel
      have hl1 := HL1.out k; have hl2 := HL2.out k
      by_cases hlt : k < l
      · obtain ⟨b1, o1, rfl, hb1, hc1⟩ := H.out k hlt
        have H1 := Lib.hid (HC1.out k hlt); have H2 := Lib.hid (HC2.out k hlt)
        generalize cntGe (xs.take k) n = p at *
        generalize cntGe (xs.take k) (n + 1) = q at *
        generalize xs.getD k 0 = x at *
        have ek : (((n + 1 : Nat) : Int)) = (n : Int) + 1 := by omega
        rw [ek] at H2
        clear H ek
        by_cases hx1 : (n : Int) + 1 ≤ x
        · have t1 : decide (x ≥ (n : Int)) = true := by simp; omega
          have t2 : decide (x ≥ (n : Int) + 1) = true := by simpa using hx1
          have E1 := Lib.hid (H1.out.trans (by rw [if_pos (by omega)]))
          have E2 := Lib.hid (H2.out.trans (by rw [if_pos hx1]))
          clear H1 H2 hx1
          go_wp2_with fail
          go_roundw
          case rel => exact ⟨k + 1, by omega, by go_num, by rw [E1.out]; go_num, by rw [E2.out]; go_num, (by first | exact rfl | trivial)⟩
          case measure => simp [intOf]; omega
        · have t2 : decide (x ≥ (n : Int) + 1) = false := by simpa using hx1
          have E2 := Lib.hid (H2.out.trans (by rw [if_neg hx1]))
          by_cases hx0 : (n : Int) ≤ x
          · have t1 : decide (x ≥ (n : Int)) = true := by simpa using hx0
            have E1 := Lib.hid (H1.out.trans (by rw [if_pos hx0]))
            clear H1 H2 hx1 hx0
            go_wp2_with fail
            go_roundw
            case rel => exact ⟨k + 1, by omega, by go_num, by rw [E1.out]; go_num, by rw [E2.out]; simp, (by first | exact rfl | trivial)⟩
            case measure => simp [intOf]; omega
          · have t1 : decide (x ≥ (n : Int)) = false := by simpa using hx0
            have E1 := Lib.hid (H1.out.trans (by rw [if_neg hx0]))
            clear H1 H2 hx1 hx0
            go_wp2_with fail
            go_roundw
            case rel => exact ⟨k + 1, by omega, by go_num, by rw [E1.out]; simp, by rw [E2.out]; simp, (by first | exact rfl | trivial)⟩
            case measure => simp [intOf]; omega
      · obtain rfl : k = l := by omega
        rw [HALL.out] at hl1 hl2 ⊢
        have hma := HMA.out; have hcn := HCN.out
        generalize cntGe xs n = p at *
        generalize cntGe xs (n + 1) = q at *
        have u1 : decide ((p : Int) ≥ (n : Int)) = true := by simp; omega
        have u2 : decide ((q : Int) < (n : Int) + 1) = true := by simp; omega
        clear HC1 HC2 HL1 HL2 HMA HCN
        by_cases h0 : 0 < k
        · obtain ⟨b1, o1, rfl, hb1, hc1⟩ := H.out 0 h0
          by_cases hc9 : c = 1
          · subst hc9
            obtain rfl : k = 1 := by omega
            have hnil : xs.drop 1 = [] := List.eq_nil_of_length_eq_zero (by rw [HDL.out])
            have HRD : Hid (RdIntS w3 (.slice (some ⟨b1, o1, none⟩) 0 0) (xs.drop 1)) := Lib.hid (by rw [hnil]; exact ⟨rfl, _, _, rfl, Nat.le_refl _, by decide, .inl rfl⟩)
            clear H hc1 hnil
            go_wp2_with fail
            refine (CTL.out _ _ HRD.out).mono ?_
            rintro e w4 ⟨⟨m, rfl, hm⟩, hb⟩
            have hml := HTL.out m hm (by omega)
            replace HB := Lib.hid (HB.out.tr hb); clear hb hm CTL HTL HSB
            obtain ⟨m1, m2⟩ := hml
            have s1 : decide ((m : Int) > (n : Int)) = false := by simp; omega
            have s2 : decide ((m : Int) < (n : Int) - 1) = false := by simp; omega
            go_wp2_with fail
            refine (alive_any _).mono ?_
            rintro e w5 ⟨rfl, hb⟩
            replace HB := Lib.hid (HB.out.tr hb); clear hb
            go_wp2_with fail
            go_ret
            exact ⟨rfl, HB.out⟩
          · have HRD := Lib.hid (HSB.out _ b1 o1 c HR.out h0)
            clear H hc1
            go_wp2_with fail
            refine (CTL.out _ _ HRD.out).mono ?_
            rintro e w4 ⟨⟨m, rfl, hm⟩, hb⟩
            have hml := HTL.out m hm (by omega)
            replace HB := Lib.hid (HB.out.tr hb); clear hb hm CTL HTL HSB
            obtain ⟨m1, m2⟩ := hml
            have s1 : decide ((m : Int) > (n : Int)) = false := by simp; omega
            have s2 : decide ((m : Int) < (n : Int) - 1) = false := by simp; omega
            go_wp2_with fail
            refine (alive_any _).mono ?_
            rintro e w5 ⟨rfl, hb⟩
            replace HB := Lib.hid (HB.out.tr hb); clear hb
            go_wp2_with fail
            go_ret
            exact ⟨rfl, HB.out⟩
        · obtain rfl : k = 0 := by omega
          clear H CTL HTL HSB
          go_wp2_with fail
          refine (alive_any _).mono ?_
          rintro e w5 ⟨rfl, hb⟩
          replace HB := Lib.hid (HB.out.tr hb); clear hb
          go_wp2_with fail
          go_ret
          exact ⟨rfl, HB.out⟩
  · have hl' : decide ((bs.length : Int) > 1048576) = true := by simp; omega
    clear HDR
    go_enter Try.func3, Try.ntmps3
    go_wp2_with fail
    go_ret
    exact ⟨rfl, Below.refl _ _⟩
set_option maxRecDepth 100000 in
theorem FnManyAtLeast_lifted (os : Os) (started : os.Started) (H : Type) (enc : TypeId × Value → H) :
    ReturnsInHanded {} Try.checked os 3 .any (Rows.fnManyAtLeastSpec.pre6 enc Try.prog Try.f3 Rows.fnManyAtLeastRow.domain false) (Rows.fnManyAtLeastSpec.post enc Try.prog Try.f3 false true false false) := by
  refine returnsInHanded_of_change (C := Try.checked) tryOwn started (by kernel_rfl) Try.func3
    (ChangeSpec.witness6 (enc := enc) (C := Try.checked) false ⟨#[], #[.slice none 0 0], []⟩ 8 (by kernel_rfl) (by kernel_rfl) (by kernel_rfl) (by kernel_rfl)) ?_
  intro W base args ds gs before hval0 hW hcnd _
  have hval : ∀ (j : Nat) t v, Try.f3.params[j]? = some t → args[j]? = some v → Value.okWide Try.prog W .any base t v := hval0
  have hW' := hW
  obtain ⟨p, q, hA0, hV, rfl, hfz, hnd⟩ := hW
  have hA : DataW.TrodAll enc Try.prog W 0 (fun _ => true) true Try.f3.params.toList args.toList ds p := hA0
  rw [Try.params3] at hA hval
  obtain ⟨v0, vs0, d0, ds0, p0, q0, hargs, rfl, rfl, h0, r0⟩ := trodAll_cons hA
  obtain ⟨rfl, rfl, rfl⟩ := trodAll_nil r0
  obtain rfl : args = #[v0] := by cases args; simp_all
  obtain ⟨rfl, rfl⟩ := trodVars_none hV
  have k0 := h0
  have lt0 : ∀ x ∈ p0, x.block < W.heap.size := by obtain ⟨m, hm⟩ := k0; exact DataW.trod_lt m _ _ _ hm
  obtain ⟨c0, len0, cap0, rfl⟩ := okWide_slice Try.underlying22 (hval 0 22 v0 rfl rfl)
  obtain ⟨n0, x0, t0⟩ := trod_of rfl h0
  obtain ⟨xs0, w0, g0⟩ := trod_bytes Try.underlying22 Try.underlying5 (by kernel_rfl) t0
  clear hA0 hval0
  refine (FnManyAtLeast_walk W _ xs0 w0 g0).mono fun e W' ⟨he, bel⟩ => ?_
  subst he
  exact ⟨_, rfl, _, _, _, [], _, [], hW', trodAll_mk1 (shut_bool Try.underlying4 _), (trodAll_cons_mk (Below.trod tryLaidOut (by kernel_rfl) (of_decide_eq_true (by kernel_rfl)) k0 bel lt0) trodAll_mk0), rfl, bel.frame _, fun h => by cases h⟩

set_option maxHeartbeats 4000000 in
set_option maxRecDepth 100000 in
theorem FnManyAtLeast_holds : Rows.FnManyAtLeastSaid := by
  refine OpenClaim.holds_of_wide 3 Try.f3 rfl rfl rfl rfl rfl rfl rfl ⟨rfl, rfl, rfl, rfl, rfl⟩ rfl rfl rfl rfl rfl ?hfn Try.func3 ?closed ?hinst ?hwrap (fun os started H enc _ => FnManyAtLeast_lifted os started H enc)
  case hfn => as_aux_lemma => kernel_rfl
  case hinst => exact of_decide_eq_true (by as_aux_lemma => kernel_rfl)
  case hwrap => unfold Func.isWrapper; first | (rw [if_pos (by decide +kernel)]; kernel_rfl) | (rw [if_neg (by decide +kernel)]; exact ⟨rfl, rfl⟩)
  case closed =>
    simp only [joinedFacts, Bool.and_eq_true]
    repeat' apply And.intro
    all_goals first
      | with_reducible exact mayEnter_ok
      | (rewrite [liftsFinal_no]; as_aux_lemma => kernel_rfl)
      | (rewrite [make_cut]; as_aux_lemma => kernel_rfl)
      | as_aux_lemma => kernel_rfl
end Go.Proofs.Ytgdggkhdollieaa
