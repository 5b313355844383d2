/-
  Sums notice changed bytes, and a byte more leads on from the sum: for every code: no condition.
-/
import Derived.Test.YtddhnngaopjjnaaArgs
import Derived.Test.YtddhnngaopjjnaaDraws
import Derived.Test.YtddhnngaopjjnaaSum
import Derived.Test.YtddhnngaopjjnaaBytes
import Derived.Test.YtddhnngaopjjnaaLib3
import Derived.Deep.RegionHeld3
namespace Go.Proofs.Ytddhnngaopjjnaa
open Go.ChangeShapes Go.WideShapes Go.ChangeAt Go.RowKit
set_option linter.unusedVariables false

set_option maxRecDepth 100000 in
set_option maxHeartbeats 4000000 in
theorem FnCheckSum_walk (w : World) (va : Value) (bs : List Int) (hv : Rd w 1 va bs.length (bys bs)) (hx : ∀ x ∈ bs, 0 ≤ x ∧ x ≤ 255) :
    Calls Try.prog 3 #[va] w fun e w' => e = .returned (.bool true) ∧ Below w.heap.size w w' := by
  have HDR := Lib.hid (DrawCheckSum_any w va bs hv hx)
  obtain ⟨hlb, av, acap, rfl, hcap, hmc, hcell⟩ := hv
  clear hlb hcap hmc hcell hx
  by_cases hl : bs.length ≤ 1048576
  · have hl' : decide ((bs.length : Int) > 1048576) = false := by simp; omega
    go_enter Try.func3, Try.ntmps3
    go_wp2_with fail
    refine HDR.out.mono ?_
    rintro e w1 ⟨v1, xs, rfl, ho1, hlen, hwf, hb1⟩
    have HR := Lib.hid (Rd.of_own ho1); have HB := Lib.hid hb1; have HLN := Lib.hid hlen
    clear ho1 hwf hb1 HDR hl hl' hlen
    have hcs := checkSum_rng xs
    have HSPEC := Lib.hid fun wx h => specCheckSum_any wx v1 xs h
    have HIMPL := Lib.hid fun wx h => implCheckSum_any wx v1 xs h
    obtain ⟨a, ca, rfl, hca, hma⟩ := HR.out.form
    rcases hcs with ⟨hc1, hbad⟩ | ⟨hc0, hc2, hok⟩
    · rw [hc1] at HSPEC HIMPL
      clear hc1 hbad
      go_wp2_with fail
      refine (HIMPL.out _ HR.out).mono ?_
      rintro e w2 ⟨rfl, hb2⟩
      replace HR := Lib.hid (HR.out.keep hb2); replace HB := Lib.hid (HB.out.tr hb2); clear hb2
      go_wp2_with fail
      refine (HSPEC.out _ HR.out).mono ?_
      rintro e w3 ⟨rfl, hb3⟩
      replace HR := Lib.hid (HR.out.keep hb3); replace HB := Lib.hid (HB.out.tr hb3); clear hb3
      go_wp2_with fail
      refine (alive_any _).mono ?_
      rintro e w4 ⟨rfl, hb4⟩
      replace HB := Lib.hid (HB.out.tr hb4); clear hb4
      go_wp2_with fail
      go_ret
      exact ⟨rfl, HB.out⟩
    · have hlen := HLN.out
      have hl12 : xs.length ≤ 12 := by have := (bytesOk_rng hok).1; omega
      clear hlen HLN
      have HMORE := Lib.hid (checkSum_more hok (by omega))
      have HBUMP := Lib.hid fun k hk => checkSum_bump (k := k) hok hk
      have HRNG := Lib.hid (bytesOk_rng hok).2
      have HOK := Lib.hid hok; clear hok
      generalize hcs : checkSum xs = cs at *
      have HCS := Lib.hid hcs; clear hcs
      generalize hn : xs.length = n at *
      have HN := Lib.hid hn; clear hn
      have hcsn : decide (cs < 0) = false := by simp; omega
      go_wp2_with fail
      refine (HIMPL.out _ HR.out).mono ?_
      rintro e w2 ⟨rfl, hb2⟩
      replace HR := Lib.hid (HR.out.keep hb2); replace HB := Lib.hid (HB.out.tr hb2); clear hb2
      go_wp2_with fail
      refine (HSPEC.out _ HR.out).mono ?_
      rintro e w3 ⟨rfl, hb3⟩
      replace HR := Lib.hid (HR.out.keep hb3); replace HB := Lib.hid (HB.out.tr hb3); clear hb3 HSPEC HIMPL
      go_wp2_with fail
      go_loopw [5] (fun i wr => ∃ k : Nat, k ≤ n ∧ i = .int .i64 k ∧ Hid (Rd wr 1 (.slice a n ca) n (ints xs)) ∧ Hid (Below w.heap.size w wr)) (fun i _ => n - (intOf i).toNat)
      case atStart => exact ⟨0, Nat.zero_le _, rfl, HR, HB⟩
      case round =>
        clear HR HB
        obtain ⟨k, hk, rfl, HR, HB⟩ := hrel
        by_cases hlt : k < n
        · obtain ⟨b1, o1, rfl, hb1, h1⟩ := HR.out.at_ hlt
          obtain ⟨hx0, hx1⟩ := HRNG.out k hlt
          have HB2 := Lib.hid (HBUMP.out k hlt)
          unfold bump at HB2
          generalize hx : xs.getD k 0 = x at *
          have HX := Lib.hid hx; clear hx
          have hz0 : 0 ≤ (x + 1) % 256 := by omega
          have hz1 : (x + 1) % 256 ≤ 255 := by omega
          have hz2 : IntKind.i64.wrap ((x + 1) % 256 - x) = (x + 1) % 256 - x := IntWalk.i64_in _ (by omega)
          have hz3 : (((x + 1) % 256 - x).tmod 251 != 0) = true := by
            rcases (by omega : (x + 1) % 256 = x + 1 ∨ (x + 1) % 256 = x - 255) with h | h <;> rw [h]
            · rw [show x + 1 - x = 1 from by omega]; decide
            · rw [show x - 255 - x = -255 from by omega]; decide
          have HZ2 := Lib.hid hz2; have HZ3 := Lib.hid hz3; clear hz2 hz3
          go_wp2_with (at_builtin; refine wpList_pushAllB rfl _ _ 23 3 rfl (.int .i64 0) 1 8 Try.underlying23 infoInt rfl (by decide) (by decide) wr.heap.size _ 0 [] (World.ownsRow_made (size := 1) wr #[] 0 (Nat.le_refl _) (by decide) rfl) rfl (.slice (some ⟨b1, o1, none⟩) n ca) n (ints xs) (HR.out.keep ((Below.refl _ _).alloc (Nat.le_refl _) _)) rfl (ints_one xs) (by omega) (by omega) (by simp) ?_; intro v' w5 hown5 hbel5 hne5; simp only [Nat.zero_add, List.nil_append] at hown5; obtain ⟨g5, c5, rfl, hg5, hgl5, hnc5, hmc5⟩ := own_form hown5 (by omega); have h5 := (hbel5.cell (p := ⟨b1, o1 + k, none⟩) hb1).trans ((World.cell?_alloc_lt _ _ _ hb1).trans h1); have h6 : w5.cell? ⟨g5, k, none⟩ = some (.int .i64 x) := (by rw [hown5.cellAt k (by omega), ints_get xs k (by rw [HN.out]; exact hlt), HX.out]); have h7 : w5.frozen? ⟨g5, k, none⟩ = false := hown5.frozenAt k; have HO5 := Lib.hid (hown5.stored k (.int .i64 ((x + 1) % 256))); have HC5 := Lib.hid hbel5; clear hown5 hbel5 hne5)
          have hb6 : Below wr.heap.size wr (w5.setCell ⟨g5, k, none⟩ (.int .i64 ((x + 1) % 256))) := (((Below.refl _ _).alloc (Nat.le_refl _) _).trans HC5.out).setCell hg5 _
          have h8 : (w5.setCell ⟨g5, k, none⟩ (.int .i64 ((x + 1) % 256))).cell? ⟨b1, o1 + k, none⟩ = some (.int .i64 x) := (hb6.cell (p := ⟨b1, o1 + k, none⟩) hb1).trans h1
          have h9 : (w5.setCell ⟨g5, k, none⟩ (.int .i64 ((x + 1) % 256))).cell? ⟨g5, k, none⟩ = some (.int .i64 ((x + 1) % 256)) := by
            rw [HO5.out.1.cellAt k (by omega)]; simp [ints, HN.out, hlt]
          have hro := Rd.of_own HO5.out.1
          rw [ints_set] at hro
          have HRO := Lib.hid hro; have HB6 := Lib.hid hb6
          clear hro hb6 HO5 HC5 h5 h6 h7 hgl5
          generalize (w5.setCell ⟨g5, k, none⟩ (.int .i64 ((x + 1) % 256))) = w6 at *
          have CC := Lib.hid (implCheckSum_any w6.drew _ (xs.set k ((x + 1) % 256)) (by rw [List.length_set, HN.out]; exact HRO.out.keep (Below.refl _ _).drew))
          generalize (x + 1) % 256 = z at *
          generalize checkSum (xs.set k z) = c2 at *
          have hne : (c2 == cs) = false := by rw [beq_eq_false_iff_ne]; exact HB2.out
          obtain ⟨d, hz2, hz3⟩ : ∃ d : Int, IntKind.i64.wrap (z - x) = d ∧ (d.tmod 251 != 0) = true := ⟨_, HZ2.out, HZ3.out⟩
          clear HZ2 HZ3
          go_region_held3 (fun w' => w'.cell? ⟨g5, k, none⟩ = some (.int .i64 z) ∧ w'.cell? ⟨b1, o1 + k, none⟩ = some (.int .i64 x)) (go_keep) (first
            | (go_at_call 16; refine (CC.out).mono ?_; rintro e w7 ⟨rfl, hb7⟩; have q1 := (hb7.cell (p := ⟨g5, k, none⟩) (World.block_lt_of_cell? w6 _ h9)).trans h9; have q2 := (hb7.cell (p := ⟨b1, o1 + k, none⟩) (World.block_lt_of_cell? w6 _ h8)).trans h8; have HB7 := Lib.hid (HB6.out.drew.trans (hb7.mono HB6.out.size)); clear hb7))
          go_wp2_with fail
          go_roundw
          case rel => exact ⟨k + 1, by omega, by go_num, Lib.hid (HR.out.keep HB7.out), Lib.hid (HB.out.tr HB7.out)⟩
          case measure => simp [intOf]; omega
        · have hcs2 : decide (cs ≤ 250) = true := by simp; omega
          go_wp2_with (first
            | (at_builtin; refine wpList_pushAllB rfl _ _ 23 3 rfl (.int .i64 0) 1 8 Try.underlying23 infoInt rfl (by decide) (by decide) wr.heap.size _ 0 [] (World.ownsRow_made (size := 1) wr #[] 0 (Nat.le_refl _) (by decide) rfl) rfl (.slice a n ca) n (ints xs) (HR.out.keep ((Below.refl _ _).alloc (Nat.le_refl _) _)) rfl (ints_one xs) (by omega) (by omega) (by simp) ?_; intro v' w5 hown5 hbel5 hne5; simp only [Nat.zero_add, List.nil_append] at hown5; have hsz5 := hbel5.size; simp only [World.size_alloc] at hsz5; clear hne5)
            | (at_builtin; refine wpList_pushB rfl _ _ 23 3 rfl (.int .i64 0) 1 8 Try.underlying23 infoInt rfl (by decide) (by decide) #[.int .i64 9] rfl (by simp [Value.oneCell']) wr.heap.size _ _ _ hown5 rfl rfl (by omega) (by omega) ?_; intro v'' w6 hown6 hbel6 hne6; clear hne6))
          have HB6 : Hid (Below w.heap.size w w6) := Lib.hid (((HB.out.alloc HB.out.size _).trans (hbel5.mono HB.out.size)).trans (hbel6.mono HB.out.size))
          have c6 := implCheckSum_any w6 _ (xs ++ [9]) (by
            have := Rd.of_own hown6
            rw [List.length_append, HN.out, ints_append]; exact this)
          rw [HMORE.out] at c6
          clear hown5 hbel5 hown6 hbel6
          refine c6.mono ?_
          clear c6
          rintro e w7 ⟨rfl, hb7⟩
          replace HB6 := Lib.hid (HB6.out.tr hb7); clear hb7
          go_wp2_with fail
          go_ret
          exact ⟨rfl, HB6.out⟩
  · have hl' : decide ((bs.length : Int) > 1048576) = true := by simp; omega
    go_enter Try.func3, Try.ntmps3
    go_wp2_with fail
    go_ret
    exact ⟨rfl, Below.refl _ _⟩
set_option maxRecDepth 100000 in
theorem FnCheckSum_lifted (os : Os) (started : os.Started) (H : Type) (enc : TypeId × Value → H) :
    ReturnsInHanded {} Try.checked os 3 .any (Rows.fnCheckSumSpec.pre6 enc Try.prog Try.f3 Rows.fnCheckSumRow.domain false) (Rows.fnCheckSumSpec.post enc Try.prog Try.f3 false true false false) := by
  refine returnsInHanded_of_change (C := Try.checked) tryOwn started (by kernel_rfl) Try.func3
    (ChangeSpec.witness6 (enc := enc) (C := Try.checked) false ⟨#[], #[.slice none 0 0], []⟩ 8 (by kernel_rfl) (by kernel_rfl) (by kernel_rfl) (by kernel_rfl)) ?_
  intro W base args ds gs before hval0 hW hcnd _
  have hval : ∀ (j : Nat) t v, Try.f3.params[j]? = some t → args[j]? = some v → Value.okWide Try.prog W .any base t v := hval0
  have hW' := hW
  obtain ⟨p, q, hA0, hV, rfl, hfz, hnd⟩ := hW
  have hA : DataW.TrodAll enc Try.prog W 0 (fun _ => true) true Try.f3.params.toList args.toList ds p := hA0
  rw [Try.params3] at hA hval
  obtain ⟨v0, vs0, d0, ds0, p0, q0, hargs, rfl, rfl, h0, r0⟩ := trodAll_cons hA
  obtain ⟨rfl, rfl, rfl⟩ := trodAll_nil r0
  obtain rfl : args = #[v0] := by cases args; simp_all
  obtain ⟨rfl, rfl⟩ := trodVars_none hV
  have k0 := h0
  have lt0 : ∀ x ∈ p0, x.block < W.heap.size := by obtain ⟨m, hm⟩ := k0; exact DataW.trod_lt m _ _ _ hm
  obtain ⟨c0, len0, cap0, rfl⟩ := okWide_slice Try.underlying22 (hval 0 22 v0 rfl rfl)
  obtain ⟨n0, x0, t0⟩ := trod_of rfl h0
  obtain ⟨xs0, w0, g0⟩ := trod_bytes Try.underlying22 Try.underlying5 (by kernel_rfl) t0
  clear hA0 hval0
  refine (FnCheckSum_walk W _ xs0 w0 g0).mono fun e W' ⟨he, bel⟩ => ?_
  subst he
  exact ⟨_, rfl, _, _, _, [], _, [], hW', trodAll_mk1 (shut_bool Try.underlying4 _), (trodAll_cons_mk (Below.trod tryLaidOut (by kernel_rfl) (of_decide_eq_true (by kernel_rfl)) k0 bel lt0) trodAll_mk0), rfl, bel.frame _, fun h => by cases h⟩

theorem FnCheckSum_holds : Rows.FnCheckSumSaid :=
  OpenClaim.holds_of_wide 3 Try.f3 rfl rfl rfl rfl rfl rfl rfl ⟨rfl, rfl, rfl, rfl, rfl⟩ rfl rfl rfl rfl rfl (by kernel_rfl) Try.func3 (by kernel_rfl)
    (of_decide_eq_true (by kernel_rfl)) (by unfold Func.isWrapper; first | (rw [if_pos (by decide +kernel)]; kernel_rfl) | (rw [if_neg (by decide +kernel)]; exact ⟨rfl, rfl⟩))
    (fun os started H enc _ => FnCheckSum_lifted os started H enc)
end Go.Proofs.Ytddhnngaopjjnaa
