/-
  A part of valid bytes is valid; with 256 they are not: for every code: no condition.
-/
import Derived.Test.YtpgdjhoicodebaaArgs
import Derived.Test.YtpgdjhoicodebaaDraws
import Derived.Test.YtpgdjhoicodebaaBytes
namespace Go.Proofs.Ytpgdjhoicodebaa
open Go.ChangeShapes Go.WideShapes Go.ChangeAt Go.RowKit
set_option linter.unusedVariables false

set_option maxRecDepth 100000 in
set_option maxHeartbeats 4000000 in
theorem FnBytesValid_walk (w : World) (va : Value) (bs : List Int) (hv : Rd w 1 va bs.length (bys bs)) (hx : ∀ x ∈ bs, 0 ≤ x ∧ x ≤ 255) :
    Calls Try.prog 12 #[va] w fun e w' => e = .returned (.bool true) ∧ Below w.heap.size w w' := by
  have HDR := Lib.hid (DrawBytesValid_any w va bs hv hx)
  obtain ⟨hlb, av, acap, rfl, hcap, hmc, hcell⟩ := hv
  clear hlb hcap hmc hcell hx
  by_cases hl : bs.length ≤ 1048576
  · have hl' : decide ((bs.length : Int) > 1048576) = false := by simp; omega
    go_enter Try.func12, Try.ntmps12
    go_wp2_with fail
    refine HDR.out.mono ?_
    rintro e w1 ⟨v1, xs, rfl, ho1, hlen, hwf, hb1⟩
    have HR1 := Lib.hid (Rd.of_own ho1); have HB1 := Lib.hid hb1
    clear ho1 hwf hb1 HDR hl hl'
    obtain ⟨_, a, cap, rfl, hcap, hmc, _⟩ := HR1.out
    have hmc2 : cap ≤ 9223372036854775807 := by unfold maxLen at hmc; omega
    clear hmc
    have Hok : Hid (bytesOk xs = true → bytesOk (xs.take (xs.length / 2)) = true) := Lib.hid fun h => bytesOk_take h _
    generalize hbo : bytesOk xs = bo
    have HBO := Lib.hid hbo; clear hbo
    go_wp2_with fail
    have c2 := implBytesValid_any w1 _ xs HR1.out
    rw [HBO.out] at c2
    refine c2.mono ?_
    clear c2
    rintro e w2 ⟨rfl, hb2⟩
    have HR2 := Lib.hid (HR1.out.keep hb2); have HB2 := Lib.hid (HB1.out.tr hb2); clear hb2
    go_wp2_with fail
    have c3 := specBytesValid_any w2 _ xs HR2.out
    rw [HBO.out] at c3
    refine c3.mono ?_
    clear c3
    rintro e w3 ⟨rfl, hb3⟩
    have HR3 := Lib.hid (HR2.out.keep hb3); have HB3 := Lib.hid (HB2.out.tr hb3); clear hb3
    clear HR1 HR2 HB1 HB2
    generalize hn : xs.length = n at *
    have HN := Lib.hid hn; clear hn
    cases bo
    case' false =>
      obtain ⟨w4, rfl⟩ : ∃ w4 : World, w4 = w3 := ⟨_, rfl⟩
      have HR4 := HR3; have HB4 := HB3
      clear HR3 HB3 Hok
    case' true =>
      go_wp2_with fail
      have ht := HR3.out.take (n / 2) (Nat.div_le_self _ _)
      have et : (ints xs).take (n / 2 * 1) = ints (xs.take (n / 2)) := by simp [ints]
      have el : (xs.take (n / 2)).length = n / 2 := by rw [List.length_take, HN.out]; omega
      rw [et] at ht
      have c4 := implBytesValid_any w3 _ (xs.take (n / 2)) (by rw [el]; exact ht)
      rw [Hok.out HBO.out] at c4
      clear ht et el
      refine c4.mono ?_
      clear c4
      rintro e w4 ⟨rfl, hb4⟩
      have HR4 := Lib.hid (HR3.out.keep hb4); have HB4 := Lib.hid (HB3.out.tr hb4)
      clear hb4 HR3 HB3 Hok
    all_goals
      go_wp2_with (first
        | (at_builtin; refine wpList_pushAllB rfl _ _ 31 3 rfl (.int .i64 0) 1 8 Try.underlying31 infoInt rfl (by decide) (by decide) w4.heap.size _ 0 [] (World.ownsRow_made (size := 1) w4 #[] 0 (Nat.le_refl _) (by decide) rfl) rfl (.slice a n cap) n (ints xs) (HR4.out.keep ((Below.refl _ _).alloc (Nat.le_refl _) _)) rfl (ints_one xs) (by omega) (by omega) (by simp) ?_; intro v' w5 hown5 hbel5 hne5; simp only [Nat.zero_add, List.nil_append] at hown5; have hsz5 := hbel5.size; simp only [World.size_alloc] at hsz5; clear hne5)
        | (at_builtin; refine wpList_pushB rfl _ _ 31 3 rfl (.int .i64 0) 1 8 Try.underlying31 infoInt rfl (by decide) (by decide) #[.int .i64 256] rfl (by simp [Value.oneCell']) w4.heap.size _ _ _ hown5 rfl rfl (by omega) (by omega) ?_; intro v'' w6 hown6 hbel6 hne6; clear hne6))
      have HB6 : Hid (Below w.heap.size w w6) := Lib.hid (((HB4.out.alloc HB4.out.size _).trans (hbel5.mono HB4.out.size)).trans (hbel6.mono HB4.out.size))
      have c6 := implBytesValid_any w6 _ (xs ++ [256]) (by
        have := Rd.of_own hown6
        rw [List.length_append, HN.out, ints_append]; exact this)
      rw [bytesOk_bad (by omega)] at c6
      clear hown5 hbel5 hown6 hbel6
      refine c6.mono ?_
      clear c6
      rintro e w7 ⟨rfl, hb7⟩
      replace HB6 := Lib.hid (HB6.out.tr hb7); clear hb7
      go_wp2_with fail
      refine (alive_any _).mono ?_
      rintro e w8 ⟨rfl, hb8⟩
      replace HB6 := Lib.hid (HB6.out.tr hb8); clear hb8
      go_wp2_with fail
      go_ret
      exact ⟨rfl, HB6.out⟩
  · have hl' : decide ((bs.length : Int) > 1048576) = true := by simp; omega
    go_enter Try.func12, Try.ntmps12
    go_wp2_with fail
    go_ret
    exact ⟨rfl, Below.refl _ _⟩
set_option maxRecDepth 100000 in
theorem FnBytesValid_lifted (os : Os) (started : os.Started) (H : Type) (enc : TypeId × Value → H) :
    ReturnsInHanded {} Try.checked os 12 .any (Rows.fnBytesValidSpec.pre6 enc Try.prog Try.f12 Rows.fnBytesValidRow.domain false) (Rows.fnBytesValidSpec.post enc Try.prog Try.f12 false true false false) := by
  refine returnsInHanded_of_change (C := Try.checked) tryOwn started (by kernel_rfl) Try.func12
    (ChangeSpec.witness6 (enc := enc) (C := Try.checked) false ⟨#[], #[.slice none 0 0], []⟩ 8 (by kernel_rfl) (by kernel_rfl) (by kernel_rfl) (by kernel_rfl)) ?_
  intro W base args ds gs before hval0 hW hcnd _
  have hval : ∀ (j : Nat) t v, Try.f12.params[j]? = some t → args[j]? = some v → Value.okWide Try.prog W .any base t v := hval0
  have hW' := hW
  obtain ⟨p, q, hA0, hV, rfl, hfz, hnd⟩ := hW
  have hA : DataW.TrodAll enc Try.prog W 0 (fun _ => true) true Try.f12.params.toList args.toList ds p := hA0
  rw [Try.params12] at hA hval
  obtain ⟨v0, vs0, d0, ds0, p0, q0, hargs, rfl, rfl, h0, r0⟩ := trodAll_cons hA
  obtain ⟨rfl, rfl, rfl⟩ := trodAll_nil r0
  obtain rfl : args = #[v0] := by cases args; simp_all
  obtain ⟨rfl, rfl⟩ := trodVars_none hV
  have k0 := h0
  have lt0 : ∀ x ∈ p0, x.block < W.heap.size := by obtain ⟨m, hm⟩ := k0; exact DataW.trod_lt m _ _ _ hm
  obtain ⟨c0, len0, cap0, rfl⟩ := okWide_slice Try.underlying39 (hval 0 39 v0 rfl rfl)
  obtain ⟨n0, x0, t0⟩ := trod_of rfl h0
  obtain ⟨xs0, w0, g0⟩ := trod_bytes Try.underlying39 Try.underlying5 (by kernel_rfl) t0
  clear hA0 hval0
  refine (FnBytesValid_walk W _ xs0 w0 g0).mono fun e W' ⟨he, bel⟩ => ?_
  subst he
  exact ⟨_, rfl, _, _, _, [], _, [], hW', trodAll_mk1 (shut_bool Try.underlying4 _), (trodAll_cons_mk (Below.trod tryLaidOut (by kernel_rfl) (of_decide_eq_true (by kernel_rfl)) k0 bel lt0) trodAll_mk0), rfl, bel.frame _, fun h => by cases h⟩

theorem FnBytesValid_holds : Rows.FnBytesValidSaid :=
  OpenClaim.holds_of_wide 12 Try.f12 rfl rfl rfl rfl rfl rfl rfl ⟨rfl, rfl, rfl, rfl, rfl⟩ rfl rfl rfl rfl rfl (by kernel_rfl) Try.func12 (by kernel_rfl)
    (of_decide_eq_true (by kernel_rfl)) (by unfold Func.isWrapper; first | (rw [if_pos (by decide +kernel)]; kernel_rfl) | (rw [if_neg (by decide +kernel)]; exact ⟨rfl, rfl⟩))
    (fun os started H enc _ => FnBytesValid_lifted os started H enc)
end Go.Proofs.Ytpgdjhoicodebaa
