/-
  No number of the list stands more often than the one that was found; the list turned round gives the same: for every code: no condition.
-/
import Derived.Test.YtddhnngaopjjnaaArgs
import Derived.Test.YtddhnngaopjjnaaDraws
import Derived.Test.YtddhnngaopjjnaaFreqD
import Derived.Test.YtddhnngaopjjnaaBytes
import Derived.Deep.RegionHeld3
namespace Go.Proofs.Ytddhnngaopjjnaa
open Go.ChangeShapes Go.WideShapes Go.ChangeAt Go.RowKit
set_option linter.unusedVariables false

set_option maxRecDepth 100000 in
set_option maxHeartbeats 8000000 in
theorem FnMostFrequent_walk (w : World) (va : Value) (bs : List Int) (hv : Rd w 1 va bs.length (bys bs)) (hx : ∀ x ∈ bs, 0 ≤ x ∧ x ≤ 255) :
    Calls Try.prog 8 #[va] w fun e w' => e = .returned (.bool true) ∧ Below w.heap.size w w' := by
  have HDR := Lib.hid (DrawMostFrequent_any w va bs hv hx)
  obtain ⟨hlb, av, acap, rfl, hcap, hmc, hcell⟩ := hv
  clear hlb hcap hmc hcell hx
  by_cases hl : bs.length ≤ 1048576
  · have hl' : decide ((bs.length : Int) > 1048576) = false := by simp; omega
    go_enter Try.func8, Try.ntmps8
    go_wp2_with fail
    refine HDR.out.mono ?_
    rintro e w1 ⟨v1, xs, rfl, ho1, hlen, hwf, hb1⟩
    have HR := Lib.hid (Rd.of_own ho1); have HB := Lib.hid hb1; have HG := Lib.hid hwf
    clear ho1 hwf hb1 HDR hl hl'
    obtain ⟨a, ca, rfl, hca, hma, _⟩ := HR.out.int
    have HS : Hid (xs.length ≤ 1048576) := Lib.hid (by omega)
    have HM : Hid (0 < xs.length → MfBest xs (mostFreq xs)) := Lib.hid (mf_best xs)
    have HN0 : Hid (xs.length = 0 → mostFreq xs = 0) := Lib.hid (mf_nil xs)
    have HREV := Lib.hid (mf_reverse xs)
    generalize hm : mostFreq xs = m at *
    have HMM := Lib.hid hm; clear hm
    go_wp2_with fail
    have c2 := implMostFrequent_any w1 _ xs HR.out HS.out HG.out
    rw [HMM.out] at c2
    refine c2.mono ?_
    clear c2
    rintro e w2 ⟨rfl, hb2⟩
    replace HR := Lib.hid (HR.out.keep hb2); replace HB := Lib.hid (HB.out.tr hb2); clear hb2
    go_wp2_with fail
    have c3 := specMostFrequent_any w2 _ xs HR.out HS.out
    rw [HMM.out] at c3
    refine c3.mono ?_
    clear c3
    rintro e w3 ⟨rfl, hb3⟩
    replace HR := Lib.hid (HR.out.keep hb3); replace HB := Lib.hid (HB.out.tr hb3); clear hb3
    generalize hn : xs.length = n at *
    have HN := Lib.hid hn; clear hn
    have HZ := Lib.hid (HB.out.size)
    go_wp2_with fail
    have HO : Hid ((w3.alloc (.cells #[] 3)).ownsRow w3.heap.size 3 1 (.slice (some ⟨w3.heap.size, 0, none⟩) 0 0) 0 []) := Lib.hid (World.ownsRow_made (size := 1) w3 #[] 0 (Nat.le_refl _) (by decide) rfl)
    have hb4 : Below w3.heap.size w3 (w3.alloc (.cells #[] 3)) := (Below.refl _ _).alloc (Nat.le_refl _) _
    have HC4 := Lib.hid hb4; clear hb4
    go_loopw [5, 6] (fun v i wr => ∃ k : Nat, k ≤ n ∧ i = .int .i64 ((k : Int) - 1) ∧ Hid (wr.ownsRow w3.heap.size 3 1 v (n - k) (ints (xs.drop k).reverse)) ∧ Hid (Below w3.heap.size w3 wr)) (fun _ i _ => (intOf i + 1).toNat)
    case atStart =>
      refine ⟨n, Nat.le_refl _, rfl, ?_, HC4⟩
      rw [Nat.sub_self, List.drop_of_length_le (by rw [HN.out]; exact Nat.le_refl _)]
      exact HO
    case round =>
      clear HO HC4
      obtain ⟨k, hk, rfl, HO, HC⟩ := hrel
      by_cases hk0 : 0 < k
      · obtain ⟨j, rfl⟩ : ∃ j, k = j + 1 := ⟨k - 1, by omega⟩
        have hr4 : RdIntS w3 (.slice a n ca) xs := by
          have := HR.out
          unfold RdIntS; rw [HN.out]; exact this
        have HR4 := Lib.hid hr4
        obtain ⟨_, _, e2, _, _, Ha⟩ := hr4.int
        simp only [Value.slice.injEq] at e2
        obtain ⟨rfl, -, rfl⟩ := e2
        obtain ⟨b1, o1, rfl, hb1, h0⟩ := Ha.out j (by rw [HN.out]; omega)
        have h1 := (HC.out.cell (p := ⟨b1, o1 + j, none⟩) hb1).trans h0
        clear Ha hr4 h0
        have HJ := Lib.hid (turned_step xs j (by rw [HN.out]; omega))
        have hmem : xs.getD j 0 ∈ xs := getD_mem (by rw [HN.out]; omega)
        have hbest := (HM.out (by omega)).2 _ hmem
        have hcl1 : xs.count (xs.getD j 0) ≤ n := by rw [← HN.out]; exact List.count_le_length
        have hcl2 : xs.count m ≤ n := by rw [← HN.out]; exact List.count_le_length
        clear hmem
        generalize hy : xs.getD j 0 = y at *
        have HY := Lib.hid hy; clear hy
        have HS2 : Hid (xs.length ≤ 1048576) := Lib.hid (by rw [HN.out]; exact HS.out)
        have C1 := Lib.hid fun (wx : World) (x : Int) (h : RdIntS wx (.slice (some ⟨b1, o1, none⟩) n ca) xs) => count_any wx _ xs x h HS2.out
        generalize hcy : xs.count y = cy at hcl1 hbest
        generalize hcm : xs.count m = cm at hcl2 hbest
        have t1 : decide ((cy : Int) > (cm : Int)) = false := by simp; omega
        have HB3 : Hid ((cy : Int) = (cm : Int) → decide (y < m) = false) := Lib.hid (by intro h; simp; omega)
        clear hbest
        generalize hci : (cy : Int) = ci at t1 HB3
        generalize hdi : (cm : Int) = di at t1 HB3
        have HCY : Hid ((xs.count y : Int) = ci) := Lib.hid (by rw [hcy]; exact hci)
        have HCM : Hid ((xs.count m : Int) = di) := Lib.hid (by rw [hcm]; exact hdi)
        have hr1 : 0 ≤ ci ∧ ci ≤ n := by omega
        have hr2 : 0 ≤ di ∧ di ≤ n := by omega
        clear hcy hcm hci hdi hcl1 hcl2
        have hsz := HC.out.size
        by_cases hq : ci = di
        · have t3 := HB3.out hq
          subst hq
          clear HB3
          go_wp2_with (first
          | (at_builtin; refine wpList_pushB rfl _ _ 23 3 rfl (.int .i64 0) 1 8 Try.underlying23 infoInt rfl (by decide) (by decide) #[.int .i64 y] rfl (by simp [Value.oneCell']) w3.heap.size _ _ _ HO.out rfl rfl (by omega) hsz ?_; intro v' w5 hown5 hbel5 hne5; have h2 := (hbel5.cell (p := ⟨b1, o1 + j, none⟩) hb1).trans h1; have HR5 := Lib.hid (HR4.out.keep (HC.out.trans hbel5)); have HO5 := Lib.hid hown5; have HC5 := Lib.hid hbel5; clear hne5 hown5 hbel5)
          | (go_at_call 39; refine (C1.out _ _ HR5.out).mono ?_; rintro e w' ⟨he, rfl⟩; (first | rw [HCY.out] at he | rw [HCM.out] at he); subst he))
          go_roundw
          case rel =>
            refine ⟨j, by omega, by go_num, Lib.hid ?_, Lib.hid (HC.out.trans HC5.out)⟩
            rw [HJ.out, ints_append, show n - j = n - (j + 1) + 1 from by omega]; exact HO5.out
          case measure => simp [intOf] <;> omega
        · have t2 : (ci == di) = false := by simpa using hq
          clear hq HB3
          go_wp2_with (first
          | (at_builtin; refine wpList_pushB rfl _ _ 23 3 rfl (.int .i64 0) 1 8 Try.underlying23 infoInt rfl (by decide) (by decide) #[.int .i64 y] rfl (by simp [Value.oneCell']) w3.heap.size _ _ _ HO.out rfl rfl (by omega) hsz ?_; intro v' w5 hown5 hbel5 hne5; have h2 := (hbel5.cell (p := ⟨b1, o1 + j, none⟩) hb1).trans h1; have HR5 := Lib.hid (HR4.out.keep (HC.out.trans hbel5)); have HO5 := Lib.hid hown5; have HC5 := Lib.hid hbel5; clear hne5 hown5 hbel5)
          | (go_at_call 39; refine (C1.out _ _ HR5.out).mono ?_; rintro e w' ⟨he, rfl⟩; (first | rw [HCY.out] at he | rw [HCM.out] at he); subst he))
          go_roundw
          case rel =>
            refine ⟨j, by omega, by go_num, Lib.hid ?_, Lib.hid (HC.out.trans HC5.out)⟩
            rw [HJ.out, ints_append, show n - j = n - (j + 1) + 1 from by omega]; exact HO5.out
          case measure => simp [intOf] <;> omega
      · obtain rfl : k = 0 := by omega
        have hr7 := Rd.of_own HO.out
        have hlr : xs.reverse.length = n := by rw [List.length_reverse, HN.out]
        rw [Nat.sub_zero, List.drop_zero, ← hlr] at hr7
        clear hlr
        have c7 := implMostFrequent_any wr _ xs.reverse hr7 (by rw [List.length_reverse, HN.out]; exact HS.out) (fun x hx => HG.out x (List.mem_reverse.1 hx))
        rw [HREV.out] at c7
        have C7 := Lib.hid c7
        clear c7 hr7 HO
        replace HB := Lib.hid (HB.out.trans (HC.out.mono HZ.out))
        by_cases hn0 : 0 < n
        · go_wp2_with (first
            | (go_at_call 37; refine C7.out.mono ?_; rintro e w8 ⟨rfl, hb8⟩; replace HB := Lib.hid (HB.out.tr hb8); clear hb8)
            | (go_at_call 18; refine (alive_any _).mono ?_; rintro e w9 ⟨rfl, hb9⟩; replace HB := Lib.hid (HB.out.tr hb9); clear hb9))
          go_ret
          exact ⟨rfl, HB.out⟩
        · have hm0 := HN0.out (by omega)
          subst hm0
          go_wp2_with (first
            | (go_at_call 37; refine C7.out.mono ?_; rintro e w8 ⟨rfl, hb8⟩; replace HB := Lib.hid (HB.out.tr hb8); clear hb8)
            | (go_at_call 18; refine (alive_any _).mono ?_; rintro e w9 ⟨rfl, hb9⟩; replace HB := Lib.hid (HB.out.tr hb9); clear hb9))
          go_ret
          exact ⟨rfl, HB.out⟩
  · have hl' : decide ((bs.length : Int) > 1048576) = true := by simp; omega
    go_enter Try.func8, Try.ntmps8
    go_wp2_with fail
    go_ret
    exact ⟨rfl, Below.refl _ _⟩
set_option maxRecDepth 100000 in
theorem FnMostFrequent_lifted (os : Os) (started : os.Started) (H : Type) (enc : TypeId × Value → H) :
    ReturnsInHanded {} Try.checked os 8 .any (Rows.fnMostFrequentSpec.pre6 enc Try.prog Try.f8 Rows.fnMostFrequentRow.domain false) (Rows.fnMostFrequentSpec.post enc Try.prog Try.f8 false true false false) := by
  refine returnsInHanded_of_change (C := Try.checked) tryOwn started (by kernel_rfl) Try.func8
    (ChangeSpec.witness6 (enc := enc) (C := Try.checked) false ⟨#[], #[.slice none 0 0], []⟩ 8 (by kernel_rfl) (by kernel_rfl) (by kernel_rfl) (by kernel_rfl)) ?_
  intro W base args ds gs before hval0 hW hcnd _
  have hval : ∀ (j : Nat) t v, Try.f8.params[j]? = some t → args[j]? = some v → Value.okWide Try.prog W .any base t v := hval0
  have hW' := hW
  obtain ⟨p, q, hA0, hV, rfl, hfz, hnd⟩ := hW
  have hA : DataW.TrodAll enc Try.prog W 0 (fun _ => true) true Try.f8.params.toList args.toList ds p := hA0
  rw [Try.params8] at hA hval
  obtain ⟨v0, vs0, d0, ds0, p0, q0, hargs, rfl, rfl, h0, r0⟩ := trodAll_cons hA
  obtain ⟨rfl, rfl, rfl⟩ := trodAll_nil r0
  obtain rfl : args = #[v0] := by cases args; simp_all
  obtain ⟨rfl, rfl⟩ := trodVars_none hV
  have k0 := h0
  have lt0 : ∀ x ∈ p0, x.block < W.heap.size := by obtain ⟨m, hm⟩ := k0; exact DataW.trod_lt m _ _ _ hm
  obtain ⟨c0, len0, cap0, rfl⟩ := okWide_slice Try.underlying22 (hval 0 22 v0 rfl rfl)
  obtain ⟨n0, x0, t0⟩ := trod_of rfl h0
  obtain ⟨xs0, w0, g0⟩ := trod_bytes Try.underlying22 Try.underlying5 (by kernel_rfl) t0
  clear hA0 hval0
  refine (FnMostFrequent_walk W _ xs0 w0 g0).mono fun e W' ⟨he, bel⟩ => ?_
  subst he
  exact ⟨_, rfl, _, _, _, [], _, [], hW', trodAll_mk1 (shut_bool Try.underlying4 _), (trodAll_cons_mk (Below.trod tryLaidOut (by kernel_rfl) (of_decide_eq_true (by kernel_rfl)) k0 bel lt0) trodAll_mk0), rfl, bel.frame _, fun h => by cases h⟩

theorem FnMostFrequent_holds : Rows.FnMostFrequentSaid :=
  OpenClaim.holds_of_wide 8 Try.f8 rfl rfl rfl rfl rfl rfl rfl ⟨rfl, rfl, rfl, rfl, rfl⟩ rfl rfl rfl rfl rfl (by kernel_rfl) Try.func8 (by kernel_rfl)
    (of_decide_eq_true (by kernel_rfl)) (by unfold Func.isWrapper; first | (rw [if_pos (by decide +kernel)]; kernel_rfl) | (rw [if_neg (by decide +kernel)]; exact ⟨rfl, rfl⟩))
    (fun os started H enc _ => FnMostFrequent_lifted os started H enc)
end Go.Proofs.Ytddhnngaopjjnaa
