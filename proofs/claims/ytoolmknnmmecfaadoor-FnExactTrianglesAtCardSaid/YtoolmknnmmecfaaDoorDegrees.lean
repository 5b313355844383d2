/-
  The degrees of all vertices: the program's function and the reference's.
-/
import Derived.Test.YtoolmknnmmecfaaDoorNear
import Derived.Test.YtoolmknnmmecfaaDoorMasks
namespace Go.Proofs.YtoolmknnmmecfaaDoor
open Go.RowKit
set_option linter.unusedVariables false

theorem nearQ_eq (ys : List Tri) (v u : Nat) : nearQ ys (v : Int) u = nearP ys v u := by
  unfold nearQ nearP nextP prevP
  induction ys with
  | nil => rfl
  | cons y ys ih =>
    simp only [List.any_cons, ih]
    cases decide (y.1 = (v : Int)) <;> cases decide (y.2.1 = (u : Int)) <;> cases decide (y.1 = (u : Int)) <;> cases decide (y.2.1 = (v : Int)) <;> simp
theorem ends_lt {g : GraphD} (hok : GraphOk g) {e : Tri} (he : e ∈ g.2) : (0 ≤ e.1 ∧ e.1 < g.1) ∧ (0 ≤ e.2.1 ∧ e.2.1 < g.1) ∧ e.1 ≠ e.2.1 := by
  obtain ⟨k, hk, rfl⟩ := List.mem_iff_getElem.1 he
  have h := hok.2.2 k hk
  have e : g.2.getD k triZ = g.2[k] := by simp [hk]
  unfold EdgeAt at h
  rw [e] at h
  omega
theorem nextP_big {g : GraphD} (hok : GraphOk g) (v u : Nat) (hu : g.1.toNat ≤ u) : nextP g.2 v u = false := by
  unfold nextP
  rw [List.any_eq_false]
  intro e he
  have := ends_lt hok he
  simp; omega
theorem prevP_big {g : GraphD} (hok : GraphOk g) (v u : Nat) (hu : g.1.toNat ≤ u) : prevP g.2 v u = false := by
  unfold prevP
  rw [List.any_eq_false]
  intro e he
  have := ends_lt hok he
  simp; omega
theorem bits_range {f : Nat → Bool} {m n : Nat} (hn : n ≤ 32) (h : ∀ i, m.testBit i = f i) (hf : ∀ i, n ≤ i → f i = false) : bitsOf m = (List.range n).filter f := by
  have e : m.testBit = f := funext h
  unfold bitsOf
  rw [e]
  exact range_filter_end f n 32 hn fun i h1 _ => hf i h1
/-- The set of the neighbours, as a list. -/
theorem near_bits {g : GraphD} (hok : GraphOk g) {M : List Nat} (hM : MaskOK (nearP g.2) g.1.toNat M) {v : Nat} (hv : v < g.1.toNat) : (bitsOf (M.getD v 0)).map (fun (u : Nat) => (u : Int)) = nearOf g (v : Int) := by
  have hn : g.1.toNat ≤ 16 := by have := hok.1; omega
  rw [bits_range (n := g.1.toNat) (by omega) (hM.2 v hv).2 fun i hi => by unfold nearP; rw [nextP_big hok v i hi, prevP_big hok v i hi]; rfl]
  unfold nearOf
  rw [if_pos (show graphOk g = true from decide_eq_true hok)]
  unfold nearTo
  congr 2
  funext u
  rw [nearQ_eq]
def degreesTo (g : GraphD) (t : Nat) : List Int := (List.range t).map fun (v : Nat) => ((nearOf g (v : Int)).length : Int)
def degreesOf (g : GraphD) : List Int := if graphOk g = true then degreesTo g g.1.toNat else []
theorem degreesTo_succ (g : GraphD) (t : Nat) : degreesTo g (t + 1) = degreesTo g t ++ [((nearOf g (t : Int)).length : Int)] := by simp [degreesTo, List.range_succ]
theorem degreesTo_length (g : GraphD) (t : Nat) : (degreesTo g t).length = t := by simp [degreesTo]
theorem degreesOf_length (g : GraphD) : (degreesOf g).length ≤ 16 := by
  unfold degreesOf; split
  · rename_i h
    have h2 := (graphOk_yes h).1
    rw [degreesTo_length]; omega
  · simp

set_option maxRecDepth 100000 in
set_option maxHeartbeats 4000000 in
theorem specDegreesOf_any (w : World) (va : Value) (g : GraphD) (h : RdGraph w va g) : Calls Tryd.prog 34 #[va] w (RetI w (degreesOf g)) := by
  have HRG := Lib.hid h
  obtain ⟨p, c, rfl, hr, hc, hmx⟩ := h.form
  clear h hr
  obtain ⟨m, ys⟩ := g
  simp only at hc ⊢
  have HB : Hid (Below w.heap.size w ((w.alloc (.cells #[.int .i64 m, .slice p ys.length c] 30)).alloc (.cells #[] 3))) := Lib.hid (by go_grown)
  have X := Lib.hid (box_alloc (heap_alloc_new w (.cells #[.int .i64 m, .slice p ys.length c] 30)) (.cells #[] 3))
  have HV := Lib.hid fun wx (hb : Below w.heap.size w wx) => specGraphValid_any wx _ _ (HRG.out.keep hb)
  have HNR := Lib.hid fun wx (v : Int) (hb : Below w.heap.size w wx) => specNearOf_any wx _ _ v (HRG.out.keep hb)
  have HO0 := Lib.hid (World.ownsRow_made (size := 1) (e := 3) (base := w.heap.size + 1) (w.alloc (.cells #[.int .i64 m, .slice p ys.length c] 30)) #[] 0 (by simp) (by decide) rfl)
  simp only [World.size_alloc] at HO0
  have HNL := Lib.hid (nearOf_length (m, ys))
  unfold degreesOf
  simp only
  cases hok : graphOk (m, ys)
  · rw [hok] at HV
    simp only [Bool.false_eq_true, if_false]
    go_enter Tryd.func34, Tryd.ntmps34
    go_wp2_with fail
    generalize ((w.alloc (.cells #[.int .i64 m, .slice p ys.length c] 30)).alloc (.cells #[] 3)) = w0 at *
    refine wp_loop_rounds 1 ?_
    rw [rounds_succ]
    have k0 := box_cell X.out 0 _ rfl; have k1 := box_cell X.out 1 _ rfl
    by_cases h1 : 0 < m
    · go_wp2_with fail
      refine (HV.out _ HB.out).mono ?_
      rintro e w1 ⟨rfl, hb⟩
      replace HB := Lib.hid (HB.out.tr hb); clear hb k0 k1
      go_wp2_with fail
      go_ret
      exact ⟨_, rfl, Ow.nil _ _ _ _ _ _, HB.out⟩
    · go_wp2_with fail
      go_ret
      exact ⟨_, rfl, Ow.nil _ _ _ _ _ _, HB.out⟩
  · rw [hok] at HV
    simp only [if_true]
    have hm := (graphOk_yes hok).1
    simp only at hm
    obtain ⟨n, rfl⟩ := Int.eq_ofNat_of_zero_le hm.1
    rw [Int.toNat_natCast]
    clear hok
    have hn16 : n ≤ 16 := by omega
    clear hm
    generalize hl : ys.length = l at *
    clear hl
    go_enter Tryd.func34, Tryd.ntmps34
    go_wp2_with fail
    generalize ((w.alloc (.cells #[.int .i64 n, .slice p l c] 30)).alloc (.cells #[] 3)) = w0 at *
    go_loopw [3, 4] (fun r i wr => ∃ t : Nat, t ≤ n ∧ i = .int .i64 t ∧ Hid (wr.ownsRow (w.heap.size + 1) 3 1 r t (ints (degreesTo (n, ys) t))) ∧ Hid (Below w.heap.size w wr) ∧ Hid (wr.heap[w.heap.size]? = some (.cells #[.int .i64 n, .slice p l c] 30 (0, 0)))) (fun _ i _ => n - (intOf i).toNat)
    case atStart => exact ⟨0, Nat.zero_le _, rfl, HO0, HB, X⟩
    case round =>
      clear HB X HO0
      obtain ⟨t, ht, rfl, HO, HB, X⟩ := hrel
      have k0 := box_cell X.out 0 _ rfl; have k1 := box_cell X.out 1 _ rfl
      by_cases hlt : t < n
      · have HS := Lib.hid (degreesTo_succ (n, ys) t)
        generalize degreesTo (n, ys) t = D at *
        have CN := Lib.hid (HNR.out · (t : Int))
        have hnl := HNL.out (t : Int)
        generalize nearOf (n, ys) (t : Int) = L at *
        go_wp2_with fail
        refine (HV.out _ HB.out).mono ?_
        rintro e w1 ⟨rfl, hb⟩
        replace HB := Lib.hid (HB.out.tr hb); replace X := Lib.hid (box_keep X.out hb); replace HO := Lib.hid (ownsRow_keep HO.out hb); clear hb k0 k1
        have k0 := box_cell X.out 0 _ rfl; have k1 := box_cell X.out 1 _ rfl
        go_wp2_with fail
        refine (CN.out _ HB.out).mono ?_
        rintro e w2 ⟨s, rfl, hs, hb⟩
        obtain ⟨a2, c2, rfl, hc2, -⟩ := Rd.form hs.rd
        replace HB := Lib.hid (HB.out.tr hb); replace X := Lib.hid (box_keep X.out hb); replace HO := Lib.hid (ownsRow_keep HO.out hb); clear hb k0 k1 hs CN
        go_wp2_with (at_builtin; refine wpList_pushB rfl _ _ 26 3 rfl (.int .i64 0) 1 8 Tryd.underlying26 infoInt rfl (by decide) (by decide) #[.int .i64 (L.length : Int)] rfl (by simp [Value.oneCell']) (w.heap.size + 1) _ _ _ HO.out rfl rfl (by omega) (box_lt X.out) ?_; intro v' w9 hown1 hbel1 hne1)
        go_roundw
        case rel =>
          refine ⟨t + 1, by omega, by go_num, Lib.hid ?_, Lib.hid (HB.out.trans (hbel1.mono (by omega))), Lib.hid ((hbel1.block _ (by omega)).trans X.out)⟩
          rw [HS.out, ints_append]; exact hown1
        case measure => simp [intOf]; omega
      · obtain rfl : t = n := by omega
        have h9 := (Ow.of_row HO.out).mono (show w.heap.size ≤ w.heap.size + 1 by omega) (Nat.le_refl _)
        have H9 := Lib.hid h9; clear h9
        go_wp2_with fail
        go_ret
        exact ⟨_, rfl, by rw [degreesTo_length]; exact H9.out, HB.out⟩

set_option maxRecDepth 100000 in
set_option maxHeartbeats 4000000 in
theorem implDegreesOf_any (w : World) (va : Value) (g : GraphD) (h : RdGraph w va g) : Calls Tryd.prog 33 #[va] w (RetI w (degreesOf g)) := by
  have HRG := Lib.hid h
  obtain ⟨p, c, rfl, hr, hc, hmx⟩ := h.form
  clear h hr
  obtain ⟨m, ys⟩ := g
  simp only at hc ⊢
  have HB : Hid (Below w.heap.size w (w.alloc (.cells #[.int .i64 m, .slice p ys.length c] 30))) := Lib.hid (by go_grown)
  have X := Lib.hid (heap_alloc_new w (.cells #[.int .i64 m, .slice p ys.length c] 30))
  have HV := Lib.hid fun wx (hb : Below w.heap.size w wx) => implGraphValid_any wx _ _ (HRG.out.keep hb)
  unfold degreesOf
  simp only
  cases hok : graphOk (m, ys)
  · rw [hok] at HV
    simp only [Bool.false_eq_true, if_false]
    go_enter Tryd.func33, Tryd.ntmps33
    go_wp2_with fail
    refine (HV.out _ HB.out).mono ?_
    rintro e w1 ⟨rfl, hb⟩
    replace HB := Lib.hid (HB.out.tr hb); clear hb
    go_wp2_with fail
    go_ret
    exact ⟨_, rfl, Ow.nil _ _ _ _ _ _, HB.out⟩
  · rw [hok] at HV
    simp only [if_true]
    have hgo := graphOk_yes hok
    have HMS := Lib.hid fun wx (hb : Below w.heap.size w wx) => nearMasks_any wx _ _ (HRG.out.keep hb) hgo
    have HBT := Lib.hid fun M hM v hv => near_bits hgo (M := M) hM (v := v) hv
    have hm := hgo.1
    simp only at hm HMS HBT
    obtain ⟨n, rfl⟩ := Int.eq_ofNat_of_zero_le hm.1
    rw [Int.toNat_natCast] at HMS HBT ⊢
    clear hok hgo
    have hn16 : n ≤ 16 := by omega
    clear hm
    generalize hl : ys.length = l at *
    clear hl
    have HDL := Lib.hid (degreesTo_length (n, ys) n)
    have HDG : Hid (∀ v, v < n → (degreesTo (n, ys) n).getD v 0 = ((nearOf (n, ys) (v : Int)).length : Int)) := Lib.hid fun v hv => by simp [degreesTo, hv]
    generalize degreesTo (n, ys) n = D at *
    obtain ⟨i0, hi, hz0, hz1, hz2⟩ := info_parts infoInt
    have Hi := Lib.hid hi; have Hz0 := Lib.hid hz0; have Hz1 := Lib.hid hz1; have Hz2 := Lib.hid hz2; clear hi hz0 hz1 hz2
    go_enter Tryd.func33, Tryd.ntmps33
    go_wp2_with fail
    refine (HV.out _ HB.out).mono ?_
    rintro e w1 ⟨rfl, hb⟩
    replace HB := Lib.hid (HB.out.tr hb); replace X := Lib.hid (box_keep X.out hb); clear hb HV
    have k0 := box_cell X.out 0 _ rfl; have k1 := box_cell X.out 1 _ rfl
    have hw1 := box_lt X.out
    go_wp2_with (at_make; refine wpList_make_full _ rfl _ _ 26 rfl w1.heap.size 3 i0 (.int .i64 0) 1 Tryd.underlying26 Hi.out Hz0.out Hz1.out _ _ _ _ n rfl rfl rfl rfl (by rw [Hz2.out]; omega) (by unfold maxLen; omega) (by simp) ?_)
    intro w2 hown hgrow
    have HO : Hid (w2.ownsRow w1.heap.size 3 1 (.slice (some ⟨w1.heap.size, 0, none⟩) n n) n (fillI n 0 D)) := Lib.hid (by
      have h := hown
      rw [toList_madeCells_one] at h
      rw [fillI_start]; exact h)
    have hb2 : Below w1.heap.size w1 w2 := (Below.refl _ _).grown hgrow (Nat.le_refl _) (by intro k hk; cases hk)
    have hlt2 : w1.heap.size < w2.heap.size := (HO.out.lt _ rfl).2
    replace HB := Lib.hid (HB.out.tr hb2); replace X := Lib.hid (box_keep X.out hb2)
    clear hown hgrow hb2 Hi Hz0 Hz1 Hz2 k0 k1
    have k0 := box_cell X.out 0 (.int .i64 n) rfl; have k1 := box_cell X.out 1 (.slice p l c) rfl
    go_wp2_with fail
    refine (HMS.out _ HB.out).mono ?_
    rintro e w3 ⟨b, M, rfl, hbb, ho, hM, hb⟩
    replace HB := Lib.hid (HB.out.tr hb); replace HO := Lib.hid (ownsRow_keep HO.out hb)
    have HW := Lib.hid ho
    have hml : M.length = n := hM.1
    have HMB := Lib.hid fun v (hv : v < n) => (hM.2 v hv).1
    have HLEN : Hid (∀ v, v < n → ((bitsOf (M.getD v 0)).length : Int) = D.getD v 0) := Lib.hid fun v hv => by rw [HDG.out v hv, ← HBT.out M hM v hv, List.length_map]
    clear ho hb hM HMS HBT HDG X k0 k1 HRG
    go_wp2_with fail
    go_loopw [15] (fun i wr => ∃ k : Nat, k ≤ n ∧ i = .int .i64 k ∧ Hid (wr.ownsRow w1.heap.size 3 1 (.slice (some ⟨w1.heap.size, 0, none⟩) n n) n (fillI n k D)) ∧ Hid (wr.ownsRow b 54 1 (.slice (some ⟨b, 0, none⟩) n n) n (mks M)) ∧ Hid (Below w.heap.size w wr)) (fun i _ => n - (intOf i).toNat)
    case atStart => exact ⟨0, Nat.zero_le _, rfl, HO, HW, HB⟩
    case round =>
      clear HO HW HB
      obtain ⟨k, hk, rfl, HO, HW, HB⟩ := hrel
      by_cases hlt : k < n
      · have c0 : wr.cell? ⟨b, k, none⟩ = some (.int .u32 ((M.getD k 0 : Nat) : Int)) := by rw [HW.out.cellAt k (by omega)]; exact mks_get M k (by omega)
        have hv := HLEN.out k hlt
        have hgl := HMB.out k hlt
        have CS := Lib.hid fun wx => size_any (M.getD k 0) hgl wx
        have HST := Lib.hid (fillI_set n k D HDL.out hlt)
        have g0 := fillI_get n k D HDL.out hlt
        generalize M.getD k 0 = mv at *
        generalize D.getD k 0 = dv at *
        generalize ((bitsOf mv).length : Int) = dw at *
        subst hv
        go_wp2_with fail
        refine (CS.out _).mono ?_
        rintro e w4 ⟨rfl, hb⟩
        replace HB := Lib.hid (HB.out.tr hb); replace HO := Lib.hid (ownsRow_keep HO.out hb); replace HW := Lib.hid (ownsRow_keep HW.out hb)
        have z1 : w4.cell? ⟨w1.heap.size, k, none⟩ = some (.int .i64 0) := by rw [HO.out.cellAt k (by omega)]; exact g0
        have z2 := HO.out.frozenAt k
        have z3 := HO.out.stored k (.int .i64 dw)
        rw [HST.out] at z3
        have HO2 := Lib.hid z3.1
        have hc4 := Chg.of_grown z3.2
        have HB2 := Lib.hid (hc4.below HB.out (by omega))
        have HW2 := Lib.hid (ownsRow_chg HW.out hc4 (by omega))
        clear z3 hc4
        go_wp2_with fail
        go_roundw
        case rel => exact ⟨k + 1, by omega, by go_num, HO2, HW2, HB2⟩
        case measure => simp [intOf]; omega
      · obtain rfl : k = n := by omega
        have hall := fillI_all k D HDL.out
        have h9 := HO.out
        rw [hall] at h9
        have H9 := Lib.hid ((Ow.of_row h9).mono (show w.heap.size ≤ w1.heap.size by omega) (Nat.le_refl _))
        clear h9
        go_wp2_with fail
        go_ret
        exact ⟨_, rfl, by rw [HDL.out]; exact H9.out, HB.out⟩
end Go.Proofs.YtoolmknnmmecfaaDoor
