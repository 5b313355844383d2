/-
  Sorted messages are in order; sorting again changes nothing; in reverse order they are sorted the same; there are as many: for every code: no condition.
-/
import Derived.Test.YtgdggkhdollieaaArgs
import Derived.Test.YtgdggkhdollieaaState
import Derived.Test.YtgdggkhdollieaaDrawM
import Derived.Test.YtgdggkhdollieaaSpecSort
import Derived.Test.YtgdggkhdollieaaImplSort
import Derived.Test.YtgdggkhdollieaaBytes
import Derived.Deep.RegionHeld3
import Derived.Test.YtgdggkhdollieaaFacts
namespace Go.Proofs.Ytgdggkhdollieaa
open Go.ChangeShapes Go.WideShapes Go.ChangeAt Go.RowKit
set_option linter.unusedVariables false

theorem sortMsgs_self {ys : List Tri} (h : ys.length ≤ 2000) : sortMsgs (sortT ys) = sortT ys := by
  unfold sortMsgs
  rw [sortT_length, if_pos h, sortT_sorted (sortT_is ys).srt]
theorem sortMsgs_rev {ys : List Tri} (h : ys.length ≤ 2000) : sortMsgs ys.reverse = sortT ys := by
  unfold sortMsgs
  rw [List.length_reverse, if_pos h, sortT_perm (List.reverse_perm ys)]
theorem pair_at {X : List Tri} (h : X.Pairwise TLe) {u k : Nat} (hu : u + 1 = k) (hk : k < X.length) : TLe (X.getD u triZ) (X.getD k triZ) := by
  have hu2 : u < X.length := by omega
  rw [List.getD_eq_getElem?_getD, List.getD_eq_getElem?_getD, List.getElem?_eq_getElem hu2, List.getElem?_eq_getElem hk]
  exact List.pairwise_iff_getElem.1 h u k hu2 hk (by omega)
theorem rev_step {ys : List Tri} {j : Nat} (hj : j < ys.length) : (ys.drop j).reverse = (ys.drop (j + 1)).reverse ++ [ys.getD j triZ] := by
  rw [List.drop_eq_getElem_cons hj, List.reverse_cons, List.getD_eq_getElem?_getD, List.getElem?_eq_getElem hj, Option.getD_some]

set_option maxRecDepth 100000 in
set_option maxHeartbeats 8000000 in
theorem FnSortMessages_walk (w : World) (va : Value) (bs : List Int) (hv : Rd w 1 va bs.length (bys bs)) (hx : ∀ x ∈ bs, 0 ≤ x ∧ x ≤ 255) :
    Calls Try.prog 4 #[va] w fun e w' => e = .returned (.bool true) ∧ Below w.heap.size w w' := by
  have HDR := Lib.hid (DrawSortMessages_any w va bs hv hx)
  obtain ⟨hlb, av, acap, rfl, hcap, hmc, hcell⟩ := hv
  clear hlb hcap hmc hcell hx
  by_cases hl : bs.length ≤ 1048576
  · have hl' : decide ((bs.length : Int) > 1048576) = false := by simp; omega
    go_enter Try.func4, Try.ntmps4
    go_wp2_with fail
    refine HDR.out.mono ?_
    rintro e w1 ⟨v, ys, rfl, hr, hlen, hwf, hb1⟩
    have HB := Lib.hid hb1; have HR := Lib.hid hr
    obtain ⟨a, ca, rfl, hca, hma⟩ := hr.form
    clear hb1 HDR hl hl' hr
    have CI1 := Lib.hid fun wx h => implSortMessages_any wx (.slice a ys.length ca) ys h hwf
    have CS := Lib.hid fun wx h => specSortMessages_any wx (.slice a ys.length ca) ys h
    by_cases hs : ys.length ≤ 2000
    · have hsm : sortMsgs ys = sortT ys := if_pos hs
      rw [hsm] at CI1 CS
      have CI2 := Lib.hid fun wx v h => implSortMessages_any wx v (sortT ys) h (fun y hy => hwf y (sortT_mem.1 hy))
      have CI3 := Lib.hid fun wx v h => implSortMessages_any wx v ys.reverse h (fun y hy => hwf y (List.mem_reverse.1 hy))
      rw [sortMsgs_self hs] at CI2
      rw [sortMsgs_rev hs] at CI3
      have HXL : Hid ((sortT ys).length = ys.length) := Lib.hid (sortT_length ys)
      have HPA : Hid (∀ u k, u + 1 = k → k < (sortT ys).length → TLe ((sortT ys).getD u triZ) ((sortT ys).getD k triZ)) := Lib.hid fun u k h1 h2 => pair_at (sortT_is ys).srt h1 h2
      have HRS : Hid (∀ j, j < ys.length → (ys.drop j).reverse = (ys.drop (j + 1)).reverse ++ [ys.getD j triZ]) := Lib.hid fun j hj => rev_step hj
      have HR0 : Hid ((ys.drop ys.length).reverse = []) := Lib.hid (by rw [List.drop_length]; rfl)
      have HRL : Hid (∀ j, (ys.drop j).reverse.length = ys.length - j) := Lib.hid fun j => by simp
      have HRV : Hid ((ys.drop 0).reverse = ys.reverse ∧ ys.reverse.length = ys.length) := Lib.hid ⟨by rw [List.drop_zero], List.length_reverse⟩
      clear hsm hwf
      generalize sortT ys = X at *
      rw [HXL.out] at HPA
      generalize hn : ys.length = n at *
      have HN := Lib.hid hn; clear hn
      have t2 : decide ((n : Int) > 2000) = false := by simp; omega
      go_wp2_with fail
      refine (CI1.out _ HR.out).mono ?_
      rintro e w2 ⟨vx, rfl, ho, hb⟩
      have hrd := ho.rd
      rw [HXL.out] at hrd
      have HX := Lib.hid hrd
      obtain ⟨ax, cx, rfl, hcx, hmx⟩ := hrd.form
      replace HB := Lib.hid (HB.out.tr hb); replace HR := Lib.hid (HR.out.keep hb); clear ho hb hrd CI1
      go_wp2_with fail
      refine (CS.out _ HR.out).mono ?_
      rintro e w3 ⟨vs, rfl, ho, hb⟩
      have hrd := ho.rd
      have HS := Lib.hid hrd
      replace HB := Lib.hid (HB.out.tr hb); replace HR := Lib.hid (HR.out.keep hb); replace HX := Lib.hid (HX.out.keep hb); clear ho hb hrd CS
      go_wp2_with fail
      refine (sameMessages_same _ _ _ X (by rw [HXL.out]; exact HX.out) HS.out).mono ?_
      rintro e w4 ⟨rfl, hb⟩
      replace HB := Lib.hid (HB.out.tr hb); replace HR := Lib.hid (HR.out.keep hb); replace HX := Lib.hid (HX.out.keep hb); clear hb HS
      have hal : Below w4.heap.size w4 (w4.alloc (.cells #[] 33)) := (Below.refl _ _).alloc (Nat.le_refl _) _
      have HO0 : Hid ((w4.alloc (.cells #[] 33)).ownsRow w4.heap.size 33 3 (.slice (some ⟨w4.heap.size, 0, none⟩) 0 0) 0 []) := Lib.hid (World.ownsRow_made (size := 3) w4 #[] 0 (Nat.le_refl _) (by decide) rfl)
      have HB0 := Lib.hid hal
      clear hal
      go_wp2_with fail
      generalize (w4.alloc (.cells #[] 33)) = w5 at *
      go_loopw [5, 6] (fun ow i wr => ∃ (j : Nat) (tv : Value), j ≤ n ∧ Hid (tv = ow) ∧ i = .int .i64 ((j : Int) - 1) ∧ Hid (wr.ownsRow w4.heap.size 33 3 tv (n - j) (tris (ys.drop j).reverse)) ∧ Hid (Below w4.heap.size w4 wr)) (fun _ i _ => (intOf i + 1).toNat)
      case atStart => exact ⟨n, _, Nat.le_refl _, Lib.hid rfl, by go_num, Lib.hid (by rw [HR0.out, Nat.sub_self]; exact HO0.out), HB0⟩
      case round =>
        clear HO0 HB0
        obtain ⟨j, tv, hj, htv, rfl, HO, HB4⟩ := hrel
        obtain rfl := htv.out
        by_cases hj0 : 0 < j
        · obtain ⟨q, rfl⟩ : ∃ q, j = q + 1 := ⟨j - 1, by omega⟩
          have hq : q < n := by omega
          obtain ⟨b1, o1, rfl, hb1, q0, q1, q2⟩ := (HR.out.keep HB4.out).tri hq
          have HS1 := Lib.hid (HRS.out q hq)
          obtain ⟨⟨y0, y1, y2⟩, hy⟩ : ∃ y, ys.getD q triZ = y := ⟨_, rfl⟩
          rw [hy] at q0 q1 q2 HS1
          simp only at q0 q1 q2
          have eq1 : ((q + 1 : Nat) : Int) - 1 = (q : Int) := by omega
          have tq : decide ((q : Int) ≥ 0) = true := by simp
          have hw4 := HB4.out.size
          rw [eq1]
          clear hy hj0
          go_wp2_with (at_builtin; refine wpList_pushB rfl _ _ 28 33 rfl (.agg #[.int .i64 0, .int .i64 0, .int .i64 0]) 3 24 Try.underlying28 infoMessage rfl (by decide) (by decide) #[.int .i64 y0, .int .i64 y1, .int .i64 y2] rfl (by simp [Value.oneCell']) w4.heap.size _ _ _ HO.out rfl rfl (by omega) hw4 ?_; intro v' w7 hown hbel hne)
          have HO7 : Hid (w7.ownsRow w4.heap.size 33 3 v' (n - q) (tris (ys.drop q).reverse)) := Lib.hid (by
            rw [HS1.out, tris_append]
            have e : n - q = n - (q + 1) + 1 := by omega
            rw [e]; exact hown)
          have HB7 := Lib.hid (HB4.out.trans hbel)
          clear hown hbel hne HO HB4
          go_wp2_with fail
          go_roundw
          case rel => exact ⟨q, _, by omega, Lib.hid rfl, by go_num, HO7, HB7⟩
          case measure => simp [intOf]
        · obtain rfl : j = 0 := by omega
          have eq1 : ((0 : Nat) : Int) - 1 = -1 := by omega
          have h0 := HO.out
          rw [HRV.out.1, Nat.sub_zero] at h0
          have HT := Lib.hid (Rd.of_own h0)
          replace HR := Lib.hid (HR.out.keep HB4.out); replace HX := Lib.hid (HX.out.keep HB4.out); replace HB := Lib.hid (HB.out.tr HB4.out)
          clear h0 HO HB4 hj0 HRS HR0 HRL
          rw [eq1]
          obtain ⟨at1, ct1, rfl, -, -⟩ := HT.out.form
          go_wp2_with fail
          generalize hw5 : wr = w6 at *
          clear hw5
          have HB6 : Hid (Below w6.heap.size w6 w6) := Lib.hid (Below.refl _ _)
          go_loopw [7] (fun i wr => ∃ k : Nat, 1 ≤ k ∧ k ≤ n + 1 ∧ i = .int .i64 k ∧ Hid (Below w6.heap.size w6 wr)) (fun i _ => n + 1 - (intOf i).toNat)
          case atStart => exact ⟨1, by omega, by omega, rfl, HB6⟩
          case round =>
            clear HB6
            obtain ⟨k, hk1, hk2, rfl, HB6⟩ := hrel
            by_cases hlt : k < n
            · obtain ⟨u, hu⟩ : ∃ u, u + 1 = k := ⟨k - 1, by omega⟩
              have hun : u < n := by omega
              have hp := HPA.out u k hu hlt
              obtain ⟨b1, o1, rfl, hb1, p0, p1, p2⟩ := HX.out.tri hun
              obtain ⟨b2, o2, he, -, q0, q1, q2⟩ := HX.out.tri hlt
              simp only [Option.some.injEq, Addr.mk.injEq, and_true] at he
              obtain ⟨rfl, rfl⟩ := he
              obtain ⟨⟨a0, a1, a2⟩, hy⟩ : ∃ y, X.getD u triZ = y := ⟨_, rfl⟩
              obtain ⟨⟨c0, c1, c2⟩, hz⟩ : ∃ y, X.getD k triZ = y := ⟨_, rfl⟩
              rw [hy] at p0 p1 p2 hp; rw [hz] at q0 q1 q2 hp
              simp only at p0 p1 p2 q0 q1 q2
              unfold TLe at hp
              simp only at hp
              replace p0 := (HB6.out.cell (p := ⟨b1, o1 + u * 3, none⟩) hb1).trans p0
              replace p1 := (HB6.out.cell (p := ⟨b1, o1 + u * 3 + 1, none⟩) hb1).trans p1
              replace q0 := (HB6.out.cell (p := ⟨b1, o1 + k * 3, none⟩) hb1).trans q0
              replace q1 := (HB6.out.cell (p := ⟨b1, o1 + k * 3 + 1, none⟩) hb1).trans q1
              have hwu : IntKind.i64.wrap ((k : Int) - 1) = (u : Int) := by rw [show (k : Int) - 1 = (u : Int) by omega]; exact IntWalk.i64_in _ (by omega)
              have g0 := fun p => GrownW.cell (B := wr.heap.size) p0 (World.block_lt_of_cell? _ _ p0) p; have g1 := fun p => GrownW.cell (B := wr.heap.size) p1 (World.block_lt_of_cell? _ _ p1) p
              have g2 := fun p => GrownW.cell (B := wr.heap.size) q0 (World.block_lt_of_cell? _ _ q0) p; have g3 := fun p => GrownW.cell (B := wr.heap.size) q1 (World.block_lt_of_cell? _ _ q1) p
              have t3 : decide (a0 > c0) = false := by simp; omega
              clear p0 p1 q0 q1 p2 q2 hy hz
              by_cases h0 : a0 = c0
              · have t4 : (a0 == c0) = true := by simp [h0]
                have t5 : decide (a1 > c1) = false := by simp; omega
                clear hp h0
                go_wp2_with fail
                refine wp_region_grown wr.heap.size (by kernel_rfl) (by kernel_rfl) ?_
                repeat (go_big_quiet_step (fail))
                refine wpQuiet_done ?_
                intro wz hbz
                have HB7 := Lib.hid (HB6.out.tr hbz)
                clear hbz g0 g1 g2 g3 t3 t4 t5
                go_wp2_with fail
                go_roundw
                case rel => exact ⟨k + 1, by omega, by omega, by go_num, HB7⟩
                case measure => simp [intOf]; omega
              · have t4 : (a0 == c0) = false := by simp [h0]
                clear hp h0
                go_wp2_with fail
                refine wp_region_grown wr.heap.size (by kernel_rfl) (by kernel_rfl) ?_
                repeat (go_big_quiet_step (fail))
                refine wpQuiet_done ?_
                intro wz hbz
                have HB7 := Lib.hid (HB6.out.tr hbz)
                clear hbz g0 g1 g2 g3 t3 t4
                go_wp2_with fail
                go_roundw
                case rel => exact ⟨k + 1, by omega, by omega, by go_num, HB7⟩
                case measure => simp [intOf]; omega
            · have t3 : decide ((k : Int) < (n : Int)) = false := by simp; omega
              have HC2 := Lib.hid (CI2.out _ (.slice ax n cx) (by rw [HXL.out]; exact HX.out.keep HB6.out))
              have ht := HT.out.keep HB6.out
              replace HX := Lib.hid (HX.out.keep HB6.out)
              replace HB := Lib.hid (HB.out.tr HB6.out)
              replace HT := Lib.hid ht
              clear ht HPA HB6
              have t6 : ((n : Int) == (n : Int)) = true := by simp
              go_wp2_with fail
              refine HC2.out.mono ?_
              rintro e w7 ⟨v7, rfl, ho, hb⟩
              have HO7 := Lib.hid ho.rd
              replace HB := Lib.hid (HB.out.tr hb); replace HX := Lib.hid (HX.out.keep hb); replace HT := Lib.hid (HT.out.keep hb); clear ho hb HC2
              go_wp2_with fail
              refine (sameMessages_same _ _ _ X HO7.out (by rw [HXL.out]; exact HX.out)).mono ?_
              rintro e w8 ⟨rfl, hb⟩
              replace HB := Lib.hid (HB.out.tr hb); replace HX := Lib.hid (HX.out.keep hb); replace HT := Lib.hid (HT.out.keep hb); clear hb HO7
              have HC3 := Lib.hid (CI3.out _ (.slice at1 n ct1) (by rw [HRV.out.2]; exact HT.out))
              go_wp2_with fail
              refine HC3.out.mono ?_
              rintro e w9 ⟨v9, rfl, ho, hb⟩
              have HO7 := Lib.hid ho.rd
              replace HB := Lib.hid (HB.out.tr hb); replace HX := Lib.hid (HX.out.keep hb); clear ho hb HC3
              go_wp2_with fail
              refine (sameMessages_same _ _ _ X HO7.out (by rw [HXL.out]; exact HX.out)).mono ?_
              rintro e w10 ⟨rfl, hb⟩
              replace HB := Lib.hid (HB.out.tr hb); clear hb HO7
              go_wp2_with fail
              go_ret
              exact ⟨rfl, HB.out⟩
    · have hsm : sortMsgs ys = [] := if_neg hs
      rw [hsm] at CI1 CS
      clear hsm hwf
      generalize hn : ys.length = n at *
      clear hn
      have t2 : decide ((n : Int) > 2000) = true := by simp; omega
      go_wp2_with fail
      refine (CI1.out _ HR.out).mono ?_
      rintro e w2 ⟨vx, rfl, ho, hb⟩
      have HX := Lib.hid ho.rd
      obtain ⟨ax, cx, rfl, hcx, hmx⟩ := HX.out.form
      replace HB := Lib.hid (HB.out.tr hb); replace HR := Lib.hid (HR.out.keep hb); clear ho hb CI1
      go_wp2_with fail
      refine (CS.out _ HR.out).mono ?_
      rintro e w3 ⟨vs, rfl, ho, hb⟩
      have HS := Lib.hid ho.rd
      replace HB := Lib.hid (HB.out.tr hb); replace HX := Lib.hid (HX.out.keep hb); clear ho hb CS HR
      go_wp2_with fail
      refine (sameMessages_same _ _ _ [] HX.out HS.out).mono ?_
      rintro e w4 ⟨rfl, hb⟩
      replace HB := Lib.hid (HB.out.tr hb); clear hb HS HX
      go_wp2_with fail
      refine (alive_any _).mono ?_
      rintro e w5 ⟨rfl, hb⟩
      replace HB := Lib.hid (HB.out.tr hb); clear hb
      go_wp2_with fail
      go_ret
      exact ⟨rfl, HB.out⟩
  · have hl' : decide ((bs.length : Int) > 1048576) = true := by simp; omega
    go_enter Try.func4, Try.ntmps4
    go_wp2_with fail
    go_ret
    exact ⟨rfl, Below.refl _ _⟩
set_option maxRecDepth 100000 in
theorem FnSortMessages_lifted (os : Os) (started : os.Started) (H : Type) (enc : TypeId × Value → H) :
    ReturnsInHanded {} Try.checked os 4 .any (Rows.fnSortMessagesSpec.pre6 enc Try.prog Try.f4 Rows.fnSortMessagesRow.domain false) (Rows.fnSortMessagesSpec.post enc Try.prog Try.f4 false true false false) := by
  refine returnsInHanded_of_change (C := Try.checked) tryOwn started (by kernel_rfl) Try.func4
    (ChangeSpec.witness6 (enc := enc) (C := Try.checked) false ⟨#[], #[.slice none 0 0], []⟩ 8 (by kernel_rfl) (by kernel_rfl) (by kernel_rfl) (by kernel_rfl)) ?_
  intro W base args ds gs before hval0 hW hcnd _
  have hval : ∀ (j : Nat) t v, Try.f4.params[j]? = some t → args[j]? = some v → Value.okWide Try.prog W .any base t v := hval0
  have hW' := hW
  obtain ⟨p, q, hA0, hV, rfl, hfz, hnd⟩ := hW
  have hA : DataW.TrodAll enc Try.prog W 0 (fun _ => true) true Try.f4.params.toList args.toList ds p := hA0
  rw [Try.params4] at hA hval
  obtain ⟨v0, vs0, d0, ds0, p0, q0, hargs, rfl, rfl, h0, r0⟩ := trodAll_cons hA
  obtain ⟨rfl, rfl, rfl⟩ := trodAll_nil r0
  obtain rfl : args = #[v0] := by cases args; simp_all
  obtain ⟨rfl, rfl⟩ := trodVars_none hV
  have k0 := h0
  have lt0 : ∀ x ∈ p0, x.block < W.heap.size := by obtain ⟨m, hm⟩ := k0; exact DataW.trod_lt m _ _ _ hm
  obtain ⟨c0, len0, cap0, rfl⟩ := okWide_slice Try.underlying22 (hval 0 22 v0 rfl rfl)
  obtain ⟨n0, x0, t0⟩ := trod_of rfl h0
  obtain ⟨xs0, w0, g0⟩ := trod_bytes Try.underlying22 Try.underlying5 (by kernel_rfl) t0
  clear hA0 hval0
  refine (FnSortMessages_walk W _ xs0 w0 g0).mono fun e W' ⟨he, bel⟩ => ?_
  subst he
  exact ⟨_, rfl, _, _, _, [], _, [], hW', trodAll_mk1 (shut_bool Try.underlying4 _), (trodAll_cons_mk (Below.trod tryLaidOut (by kernel_rfl) (of_decide_eq_true (by kernel_rfl)) k0 bel lt0) trodAll_mk0), rfl, bel.frame _, fun h => by cases h⟩

set_option maxHeartbeats 4000000 in
set_option maxRecDepth 100000 in
theorem FnSortMessages_holds : Rows.FnSortMessagesSaid := by
  refine OpenClaim.holds_of_wide 4 Try.f4 rfl rfl rfl rfl rfl rfl rfl ⟨rfl, rfl, rfl, rfl, rfl⟩ rfl rfl rfl rfl rfl ?hfn Try.func4 ?closed ?hinst ?hwrap (fun os started H enc _ => FnSortMessages_lifted os started H enc)
  case hfn => as_aux_lemma => kernel_rfl
  case hinst => exact of_decide_eq_true (by as_aux_lemma => kernel_rfl)
  case hwrap => unfold Func.isWrapper; first | (rw [if_pos (by decide +kernel)]; kernel_rfl) | (rw [if_neg (by decide +kernel)]; exact ⟨rfl, rfl⟩)
  case closed =>
    simp only [joinedFacts, Bool.and_eq_true]
    repeat' apply And.intro
    all_goals first
      | with_reducible exact mayEnter_ok
      | (rewrite [liftsFinal_no]; as_aux_lemma => kernel_rfl)
      | (rewrite [make_cut]; as_aux_lemma => kernel_rfl)
      | as_aux_lemma => kernel_rfl
end Go.Proofs.Ytgdggkhdollieaa
