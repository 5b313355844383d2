/-
  Workers divide vertices: each is owned by one worker; they ascend: for every code: no condition.
-/
import Derived.Test.YtddhnngaopjjnaaArgs
import Derived.Test.YtddhnngaopjjnaaDraws
import Derived.Test.YtddhnngaopjjnaaOwnD
import Derived.Test.YtddhnngaopjjnaaSame
import Derived.Test.YtddhnngaopjjnaaBytes
import Derived.Test.YtddhnngaopjjnaaLib3
namespace Go.Proofs.Ytddhnngaopjjnaa
open Go.ChangeShapes Go.WideShapes Go.ChangeAt Go.RowKit
set_option linter.unusedVariables false

set_option maxRecDepth 100000 in
set_option maxHeartbeats 4000000 in
theorem FnOwnedBy_walk (w : World) (va : Value) (bs : List Int) (hv : Rd w 1 va bs.length (bys bs)) (hx : ∀ x ∈ bs, 0 ≤ x ∧ x ≤ 255) :
    Calls Try.prog 11 #[va] w fun e w' => e = .returned (.bool true) ∧ Below w.heap.size w w' := by
  have HDR := Lib.hid (DrawOwnedBy_any w va bs hv hx)
  obtain ⟨hlb, av, acap, rfl, hcap, hmc, hcell⟩ := hv
  clear hlb hcap hmc hcell hx
  by_cases hl : bs.length ≤ 1048576
  · have hl' : decide ((bs.length : Int) > 1048576) = false := by simp; omega
    go_enter Try.func11, Try.ntmps11
    go_wp2_with fail
    refine HDR.out.mono ?_
    rintro e w1 ⟨m, k, q, rfl, hm, hk, hq, hb1⟩
    have HB := Lib.hid hb1
    clear hb1 HDR hl hl'
    have HI := Lib.hid fun wx y => implOwnedBy_any wx m k y
    have HSP := Lib.hid fun wx => specOwnedBy_any wx m k q ⟨by omega, by omega⟩
    have HMEM := Lib.hid fun x (h : x ∈ ownedBy m k q) => ownedBy_mem h
    have HSRT := Lib.hid (ownedBy_sorted m k q)
    have hxl := ownedBy_length m k q
    have HLE := Lib.hid fun y => ownedBy_length m k y
    go_wp2_with fail
    refine (HI.out _ q).mono ?_
    rintro e w2 ⟨v2, rfl, ho2, hb2⟩
    have HO := Lib.hid ho2; replace HB := Lib.hid (HB.out.tr hb2); clear ho2 hb2
    obtain ⟨a2, c2, rfl, hc2, hm2⟩ := HO.out.rd.form
    go_wp2_with fail
    refine (HSP.out _).mono ?_
    rintro e w3 ⟨v3, rfl, ho3, hb3⟩
    have HO3 := Lib.hid ho3; replace HB := Lib.hid (HB.out.tr hb3); have HR := Lib.hid (HO.out.rd.keep hb3); clear ho3 hb3 HO
    go_wp2_with fail
    refine (sameInts_same _ _ _ _ HR.out HO3.out.rd).mono ?_
    rintro e w4 ⟨rfl, hb4⟩
    replace HB := Lib.hid (HB.out.tr hb4); replace HR := Lib.hid (HR.out.keep hb4); clear hb4 HO3 HSP
    generalize hX : ownedBy m k q = xs at *
    have HX := Lib.hid hX; clear hX
    generalize hn : xs.length = n at *
    have HN := Lib.hid hn; clear hn
    go_wp2_with fail
    go_loopw [7] (fun i wr => ∃ j : Nat, j ≤ n ∧ i = .int .i64 j ∧ Hid (Rd wr 1 (.slice a2 n c2) n (ints xs)) ∧ Hid (Below w.heap.size w wr)) (fun i _ => n - (intOf i).toNat)
    case atStart => exact ⟨0, Nat.zero_le _, rfl, HR, HB⟩
    case round =>
      clear HR HB
      obtain ⟨j, hj, rfl, HR, HB⟩ := hrel
      by_cases hlt : j < n
      · obtain ⟨b1, o1, rfl, hb1, h1⟩ := HR.out.at_ hlt
        have hmem := HMEM.out (xs.getD j 0) (getD_mem (by rw [HN.out]; exact hlt))
        have H1 := Lib.hid fun p => GrownW.cell (B := wr.heap.size) h1 hb1 p
        obtain ⟨x0, x1, x2, x3⟩ := hmem
        have HOW := Lib.hid fun (p : GrownW wr.heap.size wr) => GrownW.call (Nat.le_refl _) (p := p) (implOwnerOf_any (xs.getD j 0) k p.v)
        rw [x2] at HOW
        clear x2 x3
        by_cases hj0 : 0 < j
        · obtain ⟨i, hji⟩ : ∃ i, j = i + 1 := ⟨j - 1, by omega⟩
          obtain ⟨b0, o0, eb, hb0, h0⟩ := HR.out.at_ (k := i) (by omega)
          simp only [Option.some.injEq, Addr.mk.injEq, and_true] at eb
          obtain ⟨rfl, rfl⟩ := eb
          have H0 := Lib.hid fun p => GrownW.cell (B := wr.heap.size) h0 hb0 p
          have hlt2 := sorted_at HSRT.out (i := i) (by rw [HN.out]; omega)
          rw [← hji] at hlt2
          have hi0 : (i : Int) < (n : Int) := by omega
          have hj1 : (j : Int) < (n : Int) := by omega
          have hj2 : (0 : Int) < (j : Int) := by omega
          have t4 : IntKind.i64.wrap ((j : Int) - 1) = (i : Int) := by rw [show (j : Int) - 1 = i from by omega]; exact IntWalk.i64_in _ (by omega)
          have t5 : (j : Int) - 1 = (i : Int) := by omega
          have T4 := Lib.hid t4; have T5 := Lib.hid t5
          clear hji h0 h1 t4 t5
          generalize xs.getD j 0 = x at *
          generalize xs.getD i 0 = y at *
          go_wp2_with fail
          have t1 : decide (y ≥ x) = false := by simp; omega
          have t2 : decide (x ≥ m) = false := by simp; omega
          have t3 : decide ((j : Int) > 0) = true := by simp; omega
          have g1 := H1.out; have g0 := H0.out; have t4 := T4.out; have t5 := T5.out
          refine wp_region_grown wr.heap.size (by kernel_rfl) (by kernel_rfl) ?_
          repeat (go_big_quiet_step ((go_at_call 50; exact HOW.out _)))
          refine wpQuiet_done ?_
          intro w9 hb9
          have HB9 := Lib.hid hb9
          clear hb9 g0 t3 t4 t5 T4 T5 H0 g1 t1 t2 H1 HOW
          go_wp2_with fail
          go_roundw
          case rel => exact ⟨j + 1, by omega, by go_num, Lib.hid (HR.out.keep HB9.out), Lib.hid (HB.out.tr HB9.out)⟩
          case measure => simp [intOf]; omega
        · have hj1 : (j : Int) < (n : Int) := by omega
          have hj2 : (0 : Int) ≤ (j : Int) := by omega
          have t3 : decide (0 < j) = false := by simp; omega
          clear h1 hj0
          generalize xs.getD j 0 = x at *
          go_wp2_with fail
          have t2 : decide (x ≥ m) = false := by simp; omega
          have g1 := H1.out
          refine wp_region_grown wr.heap.size (by kernel_rfl) (by kernel_rfl) ?_
          repeat (go_big_quiet_step ((go_at_call 50; exact HOW.out _)))
          refine wpQuiet_done ?_
          intro w9 hb9
          have HB9 := Lib.hid hb9
          clear hb9 g1 t2 t3 H1 HOW
          go_wp2_with fail
          go_roundw
          case rel => exact ⟨j + 1, by omega, by go_num, Lib.hid (HR.out.keep HB9.out), Lib.hid (HB.out.tr HB9.out)⟩
          case measure => simp [intOf]; omega
      · clear HMEM HSRT HX HN hxl
        have HS := Lib.hid (ownSum_le m k)
        go_wp2_with fail
        go_loopw [8, 9] (fun s i wr => ∃ j : Nat, j ≤ 6 ∧ i = .int .i64 j ∧ s = .int .i64 (ownSum m k j : Int) ∧ Hid (Below w.heap.size w wr)) (fun _ i _ => 6 - (intOf i).toNat)
        case atStart => exact ⟨0, Nat.zero_le _, rfl, rfl, HB⟩
        case round =>
          clear HB HR
          obtain ⟨j, hj, rfl, rfl, HB⟩ := hrel
          by_cases hlt : j < 6
          · have hs1 := HS.out j
            have hs2 := HLE.out (j : Int)
            have HE : Hid (ownSum m k (j + 1) = ownSum m k j + (ownedBy m k (j : Int)).length) := Lib.hid rfl
            have C := Lib.hid fun wx => HI.out wx (j : Int)
            generalize ownedBy m k (j : Int) = ys at *
            generalize ownSum m k j = s0 at *
            go_wp2_with fail
            refine (C.out _).mono ?_
            rintro e w7 ⟨v7, rfl, ho7, hb7⟩
            obtain ⟨a7, c7, rfl, _, _⟩ := ho7.rd.form
            replace HB := Lib.hid (HB.out.tr hb7); clear ho7 hb7
            go_wp2_with fail
            go_roundw
            case rel => exact ⟨j + 1, by omega, by go_num, by rw [HE.out]; go_num, HB⟩
            case measure => simp [intOf]; omega
          · obtain rfl : j = 6 := by omega
            have HGO := Lib.hid (ownSum_good m k)
            have HBA := Lib.hid fun h => ownSum_bad m k h 6
            have hs6 := HS.out 6
            generalize ownSum m k 6 = s6 at *
            by_cases g1 : 0 ≤ m
            · by_cases g2 : m ≤ 16
              · by_cases g3 : 1 ≤ k
                · by_cases g4 : k ≤ 6
                  · have h6 := HGO.out ⟨g1, g2, g3, g4⟩
                    subst h6
                    go_wp2_with fail
                    refine (alive_any _).mono ?_
                    rintro e w8 ⟨rfl, hb8⟩
                    replace HB := Lib.hid (HB.out.tr hb8); clear hb8
                    go_wp2_with fail
                    go_ret
                    exact ⟨rfl, HB.out⟩
                  · have h6 := HBA.out (by omega)
                    subst h6
                    go_wp2_with fail
                    refine (alive_any _).mono ?_
                    rintro e w8 ⟨rfl, hb8⟩
                    replace HB := Lib.hid (HB.out.tr hb8); clear hb8
                    go_wp2_with fail
                    go_ret
                    exact ⟨rfl, HB.out⟩
                · have h6 := HBA.out (by omega)
                  subst h6
                  go_wp2_with fail
                  refine (alive_any _).mono ?_
                  rintro e w8 ⟨rfl, hb8⟩
                  replace HB := Lib.hid (HB.out.tr hb8); clear hb8
                  go_wp2_with fail
                  go_ret
                  exact ⟨rfl, HB.out⟩
              · have h6 := HBA.out (by omega)
                subst h6
                go_wp2_with fail
                refine (alive_any _).mono ?_
                rintro e w8 ⟨rfl, hb8⟩
                replace HB := Lib.hid (HB.out.tr hb8); clear hb8
                go_wp2_with fail
                go_ret
                exact ⟨rfl, HB.out⟩
            · have h6 := HBA.out (by omega)
              subst h6
              go_wp2_with fail
              refine (alive_any _).mono ?_
              rintro e w8 ⟨rfl, hb8⟩
              replace HB := Lib.hid (HB.out.tr hb8); clear hb8
              go_wp2_with fail
              go_ret
              exact ⟨rfl, HB.out⟩
  · have hl' : decide ((bs.length : Int) > 1048576) = true := by simp; omega
    go_enter Try.func11, Try.ntmps11
    go_wp2_with fail
    go_ret
    exact ⟨rfl, Below.refl _ _⟩
set_option maxRecDepth 100000 in
theorem FnOwnedBy_lifted (os : Os) (started : os.Started) (H : Type) (enc : TypeId × Value → H) :
    ReturnsInHanded {} Try.checked os 11 .any (Rows.fnOwnedBySpec.pre6 enc Try.prog Try.f11 Rows.fnOwnedByRow.domain false) (Rows.fnOwnedBySpec.post enc Try.prog Try.f11 false true false false) := by
  refine returnsInHanded_of_change (C := Try.checked) tryOwn started (by kernel_rfl) Try.func11
    (ChangeSpec.witness6 (enc := enc) (C := Try.checked) false ⟨#[], #[.slice none 0 0], []⟩ 8 (by kernel_rfl) (by kernel_rfl) (by kernel_rfl) (by kernel_rfl)) ?_
  intro W base args ds gs before hval0 hW hcnd _
  have hval : ∀ (j : Nat) t v, Try.f11.params[j]? = some t → args[j]? = some v → Value.okWide Try.prog W .any base t v := hval0
  have hW' := hW
  obtain ⟨p, q, hA0, hV, rfl, hfz, hnd⟩ := hW
  have hA : DataW.TrodAll enc Try.prog W 0 (fun _ => true) true Try.f11.params.toList args.toList ds p := hA0
  rw [Try.params11] at hA hval
  obtain ⟨v0, vs0, d0, ds0, p0, q0, hargs, rfl, rfl, h0, r0⟩ := trodAll_cons hA
  obtain ⟨rfl, rfl, rfl⟩ := trodAll_nil r0
  obtain rfl : args = #[v0] := by cases args; simp_all
  obtain ⟨rfl, rfl⟩ := trodVars_none hV
  have k0 := h0
  have lt0 : ∀ x ∈ p0, x.block < W.heap.size := by obtain ⟨m, hm⟩ := k0; exact DataW.trod_lt m _ _ _ hm
  obtain ⟨c0, len0, cap0, rfl⟩ := okWide_slice Try.underlying22 (hval 0 22 v0 rfl rfl)
  obtain ⟨n0, x0, t0⟩ := trod_of rfl h0
  obtain ⟨xs0, w0, g0⟩ := trod_bytes Try.underlying22 Try.underlying5 (by kernel_rfl) t0
  clear hA0 hval0
  refine (FnOwnedBy_walk W _ xs0 w0 g0).mono fun e W' ⟨he, bel⟩ => ?_
  subst he
  exact ⟨_, rfl, _, _, _, [], _, [], hW', trodAll_mk1 (shut_bool Try.underlying4 _), (trodAll_cons_mk (Below.trod tryLaidOut (by kernel_rfl) (of_decide_eq_true (by kernel_rfl)) k0 bel lt0) trodAll_mk0), rfl, bel.frame _, fun h => by cases h⟩

theorem FnOwnedBy_holds : Rows.FnOwnedBySaid :=
  OpenClaim.holds_of_wide 11 Try.f11 rfl rfl rfl rfl rfl rfl rfl ⟨rfl, rfl, rfl, rfl, rfl⟩ rfl rfl rfl rfl rfl (by kernel_rfl) Try.func11 (by kernel_rfl)
    (of_decide_eq_true (by kernel_rfl)) (by unfold Func.isWrapper; first | (rw [if_pos (by decide +kernel)]; kernel_rfl) | (rw [if_neg (by decide +kernel)]; exact ⟨rfl, rfl⟩))
    (fun os started H enc _ => FnOwnedBy_lifted os started H enc)
end Go.Proofs.Ytddhnngaopjjnaa
