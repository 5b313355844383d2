/-
  The neighbours of a vertex: the reference's function.
-/
import Derived.Test.YtobhekkgbccoiaaDoorGraphV
import Derived.Test.YtobhekkgbccoiaaDoorInts
namespace Go.Proofs.YtobhekkgbccoiaaDoor
open Go.RowKit
set_option linter.unusedVariables false

/-- v and u are neighbours. -/
def nearQ (ys : List Tri) (v : Int) (u : Nat) : Bool := ys.any fun e => (decide (e.1 = v) && decide (e.2.1 = (u : Int))) || (decide (e.1 = (u : Int)) && decide (e.2.1 = v))
def nearTo (ys : List Tri) (v : Int) (t : Nat) : List Int := ((List.range t).filter (nearQ ys v)).map fun (u : Nat) => (u : Int)
def nearOf (g : GraphD) (v : Int) : List Int := if graphOk g = true then nearTo g.2 v g.1.toNat else []
theorem nearTo_yes (ys : List Tri) (v : Int) (t : Nat) (h : nearQ ys v t = true) : nearTo ys v (t + 1) = nearTo ys v t ++ [(t : Int)] := by
  simp [nearTo, List.range_succ, List.filter_append, h]
theorem nearTo_no (ys : List Tri) (v : Int) (t : Nat) (h : nearQ ys v t = false) : nearTo ys v (t + 1) = nearTo ys v t := by
  simp [nearTo, List.range_succ, List.filter_append, h]
theorem nearTo_length (ys : List Tri) (v : Int) (t : Nat) : (nearTo ys v t).length ≤ t := by
  unfold nearTo; rw [List.length_map]; exact Nat.le_trans (List.length_filter_le _ _) (by simp)
theorem nearOf_length (g : GraphD) (v : Int) : (nearOf g v).length ≤ 16 := by
  unfold nearOf; split
  · rename_i h
    have h1 := nearTo_length g.2 v g.1.toNat
    have h2 := (graphOk_yes h).1
    omega
  · simp
theorem nearQ_snoc (ys : List Tri) (v : Int) (u k : Nat) (hk : k < ys.length) : nearQ (ys.take (k + 1)) v u =
    (nearQ (ys.take k) v u || ((decide ((ys.getD k triZ).1 = v) && decide ((ys.getD k triZ).2.1 = (u : Int))) || (decide ((ys.getD k triZ).1 = (u : Int)) && decide ((ys.getD k triZ).2.1 = v)))) := by
  unfold nearQ
  rw [triTake_snoc ys k hk, List.any_append]
  simp

set_option maxRecDepth 100000 in
set_option maxHeartbeats 8000000 in
theorem specNearOf_any (w : World) (va : Value) (g : GraphD) (v : Int) (h : RdGraph w va g) : Calls Tryd.prog 56 #[va, .int .i64 v] w (RetI w (nearOf g v)) := by
  have HRG := Lib.hid h
  obtain ⟨p, c, rfl, hr, hc, hmx⟩ := h.form
  clear h
  obtain ⟨m, ys⟩ := g
  simp only at hr hc ⊢
  have HR : Hid (Rd w 3 (.slice p ys.length c) ys.length (tris ys)) := Lib.hid hr
  clear hr
  have HB : Hid (Below w.heap.size w ((w.alloc (.cells #[.int .i64 m, .slice p ys.length c] 30)).alloc (.cells #[] 3))) := Lib.hid (by go_grown)
  have X := Lib.hid (box_alloc (heap_alloc_new w (.cells #[.int .i64 m, .slice p ys.length c] 30)) (.cells #[] 3))
  have HV := Lib.hid fun wx (hb : Below w.heap.size w wx) => specGraphValid_any wx _ _ (HRG.out.keep hb)
  have HO0 := Lib.hid (World.ownsRow_made (size := 1) (e := 3) (base := w.heap.size + 1) (w.alloc (.cells #[.int .i64 m, .slice p ys.length c] 30)) #[] 0 (by simp) (by decide) rfl)
  simp only [World.size_alloc] at HO0
  unfold nearOf
  simp only
  cases hok : graphOk (m, ys)
  · rw [hok] at HV
    simp only [Bool.false_eq_true, if_false]
    go_enter Tryd.func56, Tryd.ntmps56
    go_wp2_with fail
    generalize ((w.alloc (.cells #[.int .i64 m, .slice p ys.length c] 30)).alloc (.cells #[] 3)) = w0 at *
    refine wp_loop_rounds 1 ?_
    rw [rounds_succ]
    have k0 := box_cell X.out 0 _ rfl; have k1 := box_cell X.out 1 _ rfl
    by_cases h1 : 0 < m
    · go_wp2_with fail
      refine (HV.out _ HB.out).mono ?_
      rintro e w1 ⟨rfl, hb⟩
      replace HB := Lib.hid (HB.out.tr hb); clear hb k0 k1
      go_wp2_with fail
      go_ret
      exact ⟨_, rfl, Ow.nil _ _ _ _ _ _, HB.out⟩
    · go_wp2_with fail
      go_ret
      exact ⟨_, rfl, Ow.nil _ _ _ _ _ _, HB.out⟩
  · rw [hok] at HV
    simp only [if_true]
    have hm := (graphOk_yes hok).1
    simp only at hm
    obtain ⟨n, rfl⟩ := Int.eq_ofNat_of_zero_le hm.1
    rw [Int.toNat_natCast]
    clear hok
    have hn16 : n ≤ 16 := by omega
    clear hm
    generalize hl : ys.length = l at *
    have HL := Lib.hid hl; clear hl
    go_enter Tryd.func56, Tryd.ntmps56
    go_wp2_with fail
    generalize ((w.alloc (.cells #[.int .i64 n, .slice p l c] 30)).alloc (.cells #[] 3)) = w0 at *
    go_loopw [5, 6] (fun r i wr => ∃ t : Nat, t ≤ n ∧ i = .int .i64 t ∧ Hid (wr.ownsRow (w.heap.size + 1) 3 1 r (nearTo ys v t).length (ints (nearTo ys v t))) ∧ Hid (Below w.heap.size w wr) ∧ Hid (wr.heap[w.heap.size]? = some (.cells #[.int .i64 n, .slice p l c] 30 (0, 0)))) (fun _ i _ => n - (intOf i).toNat)
    case atStart => exact ⟨0, Nat.zero_le _, rfl, HO0, HB, X⟩
    case round =>
      clear HB X HO0
      obtain ⟨t, ht, rfl, HO, HB, X⟩ := hrel
      have hlen := nearTo_length ys v t
      have k0 := box_cell X.out 0 _ rfl; have k1 := box_cell X.out 1 _ rfl
      by_cases hlt : t < n
      · have HY := Lib.hid (nearTo_yes ys v t); have HN := Lib.hid (nearTo_no ys v t)
        generalize hT : nearTo ys v t = T at *
        generalize hal : T.length = al at *
        have HAL := Lib.hid hal; have HT := Lib.hid hT; clear hal hT
        go_wp2_with fail
        refine (HV.out _ HB.out).mono ?_
        rintro e w1 ⟨rfl, hb⟩
        replace HB := Lib.hid (HB.out.tr hb); replace X := Lib.hid (box_keep X.out hb); replace HO := Lib.hid (ownsRow_keep HO.out hb); clear hb k0 k1
        go_wp2_with fail
        go_loopw [7, 8] (fun q i wi => ∃ k : Nat, k ≤ l ∧ i = .int .i64 k ∧ q = .bool (nearQ (ys.take k) v t) ∧ Hid (Below w1.heap.size w1 wi)) (fun _ i _ => l - (intOf i).toNat)
        case atStart => exact ⟨0, Nat.zero_le _, rfl, by simp [nearQ], Lib.hid (Below.refl _ _)⟩
        case round =>
          obtain ⟨k, hk, rfl, rfl, HI⟩ := hrel
          have X2 := Lib.hid (box_keep X.out HI.out)
          have k0 := box_cell X2.out 0 _ rfl; have k1 := box_cell X2.out 1 _ rfl
          by_cases hlt2 : k < l
          · obtain ⟨b1, o1, rfl, hb1, c0, c1, c2⟩ := (HR.out.keep (HB.out.tr HI.out)).tri hlt2
            have HQ := Lib.hid (nearQ_snoc ys v t k (by rw [HL.out]; exact hlt2))
            generalize (ys.getD k triZ).1 = ta at *
            generalize (ys.getD k triZ).2.1 = tb at *
            generalize (ys.getD k triZ).2.2 = tc at *
            generalize nearQ (ys.take k) v t = q at *
            have HI2 := Lib.hid (HI.out.tr (show Below wr.heap.size wr (wr.alloc (.cells #[.int .i64 ta, .int .i64 tb, .int .i64 tc] 44)) by go_grown))
            have hxi := box_lt X2.out
            obtain ⟨a1, e1⟩ : ∃ b, (ta == v) = b := ⟨_, rfl⟩
            obtain ⟨a2, e2⟩ : ∃ b, (tb == (t : Int)) = b := ⟨_, rfl⟩
            obtain ⟨a3, e3⟩ : ∃ b, (ta == (t : Int)) = b := ⟨_, rfl⟩
            obtain ⟨a4, e4⟩ : ∃ b, (tb == v) = b := ⟨_, rfl⟩
            have d1 : decide (ta = v) = a1 := by rw [← e1]; rfl
            have d2 : decide (tb = (t : Int)) = a2 := by rw [← e2]; rfl
            have d3 : decide (ta = (t : Int)) = a3 := by rw [← e3]; rfl
            have d4 : decide (tb = v) = a4 := by rw [← e4]; rfl
            rw [d1, d2, d3, d4] at HQ
            clear d1 d2 d3 d4
            cases q
            · cases a1
              · cases a3
                · go_wp2_with fail
                  go_roundw
                  case rel => exact ⟨k + 1, by omega, by go_num, by rw [HQ.out]; rfl, HI2⟩
                  case measure => simp [intOf]; omega
                · cases a4
                  · go_wp2_with fail
                    go_roundw
                    case rel => exact ⟨k + 1, by omega, by go_num, by rw [HQ.out]; rfl, HI2⟩
                    case measure => simp [intOf]; omega
                  · go_wp2_with fail
                    go_roundw
                    case rel => exact ⟨k + 1, by omega, by go_num, by rw [HQ.out]; rfl, HI2⟩
                    case measure => simp [intOf]; omega
              · cases a2
                · cases a3
                  · go_wp2_with fail
                    go_roundw
                    case rel => exact ⟨k + 1, by omega, by go_num, by rw [HQ.out]; rfl, HI2⟩
                    case measure => simp [intOf]; omega
                  · cases a4
                    · go_wp2_with fail
                      go_roundw
                      case rel => exact ⟨k + 1, by omega, by go_num, by rw [HQ.out]; rfl, HI2⟩
                      case measure => simp [intOf]; omega
                    · go_wp2_with fail
                      go_roundw
                      case rel => exact ⟨k + 1, by omega, by go_num, by rw [HQ.out]; rfl, HI2⟩
                      case measure => simp [intOf]; omega
                · go_wp2_with fail
                  go_roundw
                  case rel => exact ⟨k + 1, by omega, by go_num, by rw [HQ.out]; rfl, HI2⟩
                  case measure => simp [intOf]; omega
            · go_wp2_with fail
              go_roundw
              case rel => exact ⟨k + 1, by omega, by go_num, by rw [HQ.out]; rfl, HI2⟩
              case measure => simp [intOf]; omega
          · obtain rfl : k = l := by omega
            rw [List.take_of_length_le (by rw [HL.out]; exact Nat.le_refl _)]
            have HB2 := Lib.hid (HB.out.tr HI.out)
            have HO2 := Lib.hid (ownsRow_keep HO.out HI.out)
            generalize nearQ ys v t = q at *
            cases q
            · go_wp2_with fail
              go_roundw
              case rel => exact ⟨t + 1, by omega, by go_num, by rw [HN.out rfl, HAL.out]; exact HO2, HB2, X2⟩
              case measure => simp [intOf]; omega
            · go_wp2_with (at_builtin; refine wpList_pushB rfl _ _ 26 3 rfl (.int .i64 0) 1 8 Tryd.underlying26 infoInt rfl (by decide) (by decide) #[.int .i64 (t : Int)] rfl (by simp [Value.oneCell']) (w.heap.size + 1) _ _ _ HO2.out rfl rfl (by omega) (box_lt X2.out) ?_; intro v' w9 hown1 hbel1 hne1)
              go_roundw
              case rel =>
                refine ⟨t + 1, by omega, by go_num, Lib.hid ?_, Lib.hid (HB2.out.trans (hbel1.mono (by omega))), Lib.hid ((hbel1.block _ (by omega)).trans X2.out)⟩
                rw [HY.out rfl, ints_append, List.length_append, HAL.out]; exact hown1
              case measure => simp [intOf]; omega
      · obtain rfl : t = n := by omega
        go_wp2_with fail
        go_ret
        exact ⟨_, rfl, (Ow.of_row HO.out).mono (by omega) (Nat.le_refl _), HB.out⟩
end Go.Proofs.YtobhekkgbccoiaaDoor
