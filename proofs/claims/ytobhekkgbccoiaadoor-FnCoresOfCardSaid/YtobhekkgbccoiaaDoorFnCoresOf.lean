/-
  Cores have neighbours: every vertex has at least as many neighbours with at least its number as its number is, and at most so many with a greater one: for every code: no condition.
-/
import Derived.Test.YtobhekkgbccoiaaDoorArgs
import Derived.Test.YtobhekkgbccoiaaDoorDense
import Derived.Test.YtobhekkgbccoiaaDoorCoresW
import Derived.Test.YtobhekkgbccoiaaDoorNext
import Derived.Test.YtobhekkgbccoiaaDoorSame
import Derived.Test.YtobhekkgbccoiaaDoorBytes
import Derived.Test.YtobhekkgbccoiaaDoorFacts
import Derived.Test.YtobhekkgbccoiaaDoorTab
import Derived.Test.YtobhekkgbccoiaaDoorCards
import Derived.Test.YtobhekkgbccoiaaDoorTie
import Derived.LaidMore
import Derived.OpenShut
import Derived.Stop.Joined
import Derived.SevenTiedAt
namespace Go.Proofs.YtobhekkgbccoiaaDoor
open Go.ChangeShapes Go.WideShapes Go.ChangeAt Go.RowKit
set_option linter.unusedVariables false

def geB (C : List Int) (v n : Nat) : List Bool := (List.range n).map fun u => decide (C.getD v 0 ≤ C.getD u 0)
def gtB (C : List Int) (v n : Nat) : List Bool := (List.range n).map fun u => decide (C.getD v 0 < C.getD u 0)
theorem geB_get (C : List Int) (v n u : Nat) (h : u < n) : (geB C v n).getD u false = decide (C.getD v 0 ≤ C.getD u 0) := by simp [geB, h]
theorem gtB_get (C : List Int) (v n u : Nat) (h : u < n) : (gtB C v n).getD u false = decide (C.getD v 0 < C.getD u 0) := by simp [gtB, h]
/-- What the law asks, said of the counts of a vertex's neighbours. -/
theorem cores_facts {n : Nat} {ys : List Tri} {C : List Int} (hok : graphOk ((n : Int), ys) = true) (h : IsCores (nearP ys) n C) : ∀ v, v < n →
    0 ≤ C.getD v 0 ∧ (∀ j, j < (nearOf ((n : Int), ys) (v : Int)).length → ∃ u : Nat, (nearOf ((n : Int), ys) (v : Int)).getD j 0 = (u : Int) ∧ u < n) ∧
    C.getD v 0 ≤ ((cntB (geB C v n) (nearOf ((n : Int), ys) (v : Int)) : Nat) : Int) ∧ ((cntB (gtB C v n) (nearOf ((n : Int), ys) (v : Int)) : Nat) : Int) ≤ C.getD v 0 ∧
    ∀ j u, j < (nearOf ((n : Int), ys) (v : Int)).length → (nearOf ((n : Int), ys) (v : Int)).getD j 0 = ((u : Nat) : Int) →
      (C.getD v 0 < C.getD u 0 → cntB (geB C v n) ((nearOf ((n : Int), ys) (v : Int)).take (j + 1)) = cntB (geB C v n) ((nearOf ((n : Int), ys) (v : Int)).take j) + 1 ∧ cntB (gtB C v n) ((nearOf ((n : Int), ys) (v : Int)).take (j + 1)) = cntB (gtB C v n) ((nearOf ((n : Int), ys) (v : Int)).take j) + 1) ∧
      (C.getD v 0 = C.getD u 0 → cntB (geB C v n) ((nearOf ((n : Int), ys) (v : Int)).take (j + 1)) = cntB (geB C v n) ((nearOf ((n : Int), ys) (v : Int)).take j) + 1 ∧ cntB (gtB C v n) ((nearOf ((n : Int), ys) (v : Int)).take (j + 1)) = cntB (gtB C v n) ((nearOf ((n : Int), ys) (v : Int)).take j)) ∧
      (C.getD u 0 < C.getD v 0 → cntB (geB C v n) ((nearOf ((n : Int), ys) (v : Int)).take (j + 1)) = cntB (geB C v n) ((nearOf ((n : Int), ys) (v : Int)).take j) ∧ cntB (gtB C v n) ((nearOf ((n : Int), ys) (v : Int)).take (j + 1)) = cntB (gtB C v n) ((nearOf ((n : Int), ys) (v : Int)).take j)) := fun v hv => by
  have hat := fun j hj => near_at (g := ((n : Int), ys)) (v := v) (j := j) hok hj
  have hge : ((cntB (geB C v n) (nearOf ((n : Int), ys) (v : Int)) : Nat)) = cntN (nearP ys) (fun u => decide (C.getD v 0 ≤ C.getD u 0)) n v := by
    rw [cntB_near hok]
    exact cntN_congr (fun u hu => geB_get C v n u hu) v
  have hgt : ((cntB (gtB C v n) (nearOf ((n : Int), ys) (v : Int)) : Nat)) = cntN (nearP ys) (fun u => decide (C.getD v 0 < C.getD u 0)) n v := by
    rw [cntB_near hok]
    exact cntN_congr (fun u hu => gtB_get C v n u hu) v
  simp only [Int.toNat_natCast] at hat
  refine ⟨(h.at_ v hv).1, hat, by rw [hge]; exact h.many hv, by rw [hgt]; exact h.more hv, fun j u hj hu => ?_⟩
  obtain ⟨u', hu', hun⟩ := hat j hj
  rw [hu] at hu'
  obtain rfl : u = u' := by omega
  generalize nearOf ((n : Int), ys) (v : Int) = N at *
  have gy := fun h => cntB_yes (geB C v n) N j hj h; have gn := fun h => cntB_no (geB C v n) N j hj h
  have ty := fun h => cntB_yes (gtB C v n) N j hj h; have tn := fun h => cntB_no (gtB C v n) N j hj h
  rw [hu, Int.toNat_natCast, geB_get C v n u hun] at gy gn
  rw [hu, Int.toNat_natCast, gtB_get C v n u hun] at ty tn
  simp only [decide_eq_true_eq, decide_eq_false_iff_not] at gy gn ty tn
  exact ⟨fun hc => ⟨gy (by omega), ty hc⟩, fun hc => ⟨gy (by omega), tn (by omega)⟩, fun hc => ⟨gn (by omega), tn (by omega)⟩⟩
set_option maxRecDepth 100000 in
set_option maxHeartbeats 8000000 in
theorem FnCoresOf_walk (w : World) (va : Value) (bs : List Int) (hv : Rd w 1 va bs.length (bys bs)) (hx : ∀ x ∈ bs, 0 ≤ x ∧ x ≤ 255) (HT : TabW w) :
    Calls Tryd.prog 8 #[va] w fun e w' => e = .returned (.bool true) ∧ Below w.heap.size w w' := by
  have HDR := Lib.hid (DrawCoresOf_any w va bs hv hx)
  have HTB := Lib.hid HT; clear HT
  obtain ⟨hlb, av, acap, rfl, hcap, hmc, hcell⟩ := hv
  clear hlb hcap hmc hcell hx
  by_cases hl : bs.length ≤ 1048576
  case neg =>
    have hl' : decide ((bs.length : Int) > 1048576) = true := by simp; omega
    go_enter Tryd.func8, Tryd.ntmps8
    go_wp2_with fail
    go_ret
    exact ⟨rfl, Below.refl _ _⟩
  case pos =>
  have hl' : decide ((bs.length : Int) > 1048576) = false := by simp; omega
  go_enter Tryd.func8, Tryd.ntmps8
  go_wp2_with fail
  refine HDR.out.mono ?_
  rintro e w1 ⟨p, c, g, rfl, hr, hlen, hgm, hc, hb1⟩
  have hA : Below w1.heap.size w1 (w1.alloc (.cells #[.int .i64 g.1, .slice p g.2.length c] 30)) := (Below.refl _ _).alloc (Nat.le_refl _) _
  have HB := Lib.hid (hb1.tr hA); have HR := Lib.hid (hr.keep hA); have X := Lib.hid (heap_alloc_new w1 (.cells #[.int .i64 g.1, .slice p g.2.length c] 30))
  have hs2 : (w1.alloc (.cells #[.int .i64 g.1, .slice p g.2.length c] 30)).heap.size = w1.heap.size + 1 := by simp
  clear hA hb1 hr HDR hl'
  have k0 := box_cell X.out 0 (.int .i64 g.1) rfl; have k1 := box_cell X.out 1 (.slice p g.2.length c) rfl
  go_wp2_with fail
  generalize (w1.alloc (.cells #[.int .i64 g.1, .slice p g.2.length c] 30)) = w2 at *
  have HIM := Lib.hid (implCoresOf_any w2 _ g HR.out (HTB.out.keep HB.out))
  have HSP := Lib.hid fun wx h => specCoresOf_any wx (.agg #[.int .i64 g.1, .slice p g.2.length c]) g h
  have HNE := Lib.hid fun h : graphOk g = false => coresOf_no h
  have HYE := Lib.hid fun h : graphOk g = true => coresOf_is h
  have hdl := coresOf_length g
  generalize coresOf g = D at *
  refine HIM.out.mono ?_
  rintro e w3 ⟨s, rfl, hs, hb⟩
  obtain ⟨ax, cx, rfl, hcx, hcx2⟩ := Rd.form hs.rd
  have HX := Lib.hid hs.rd
  have hw23 := hb.size
  replace HB := Lib.hid (HB.out.tr hb); replace HR := Lib.hid (HR.out.keep hb); replace X := Lib.hid (box_keep X.out hb); clear hb hs HIM k0 k1
  have k0 := box_cell X.out 0 (.int .i64 g.1) rfl; have k1 := box_cell X.out 1 (.slice p g.2.length c) rfl
  go_wp2_with fail
  refine (HSP.out _ HR.out).mono ?_
  rintro e w4 ⟨s, rfl, hs, hb⟩
  obtain ⟨ay, cy, rfl, -, -⟩ := Rd.form hs.rd
  have HY := Lib.hid hs.rd
  have hw34 := hb.size
  replace HB := Lib.hid (HB.out.tr hb); replace HR := Lib.hid (HR.out.keep hb); replace X := Lib.hid (box_keep X.out hb); replace HX := Lib.hid (HX.out.keep hb); clear hb hs HSP k0 k1
  go_wp2_with fail
  refine (sameInts_same w4 _ _ D HX.out HY.out).mono ?_
  rintro e w5 ⟨rfl, hb⟩
  have hw45 := hb.size
  replace HB := Lib.hid (HB.out.tr hb); replace HR := Lib.hid (HR.out.keep hb); replace X := Lib.hid (box_keep X.out hb); replace HX := Lib.hid (HX.out.keep hb); clear hb HY
  have k0 := box_cell X.out 0 (.int .i64 g.1) rfl; have k1 := box_cell X.out 1 (.slice p g.2.length c) rfl
  go_wp2_with fail
  have HGV := Lib.hid (specGraphValid_any w5 _ g HR.out)
  cases hok : graphOk g
  · rw [hok] at HGV
    have hD := HNE.out hok
    subst hD
    refine HGV.out.mono ?_
    rintro e w6 ⟨rfl, hb⟩
    replace HB := Lib.hid (HB.out.tr hb); clear hb k0 k1 HNE HYE
    go_wp2_with fail
    refine (alive_any _).mono ?_
    rintro e w7 ⟨rfl, hb⟩
    replace HB := Lib.hid (HB.out.tr hb); clear hb
    go_wp2_with fail
    go_ret
    exact ⟨rfl, HB.out⟩
  rw [hok] at HGV
  have hgo := graphOk_yes hok
  have hD := HYE.out hok
  have hmm := hgo.1
  clear HNE HYE
  obtain ⟨m, ys⟩ := g
  simp only at hmm hc hlen
  obtain ⟨n, rfl⟩ := Int.eq_ofNat_of_zero_le hmm.1
  have hdn := hD.len
  simp only [Int.toNat_natCast] at hD hdn
  have hn16 : n ≤ 16 := by omega
  have HD := Lib.hid hD; clear hD
  have HCF := Lib.hid (cores_facts hok HD.out)
  have HNR : Hid (∃ NL : Nat → List Int, (∀ wx (v : Nat), RdGraph wx (.agg #[.int .i64 (n : Int), .slice p ys.length c]) ((n : Int), ys) → TabW wx → Calls Tryd.prog 28 #[.agg #[.int .i64 (n : Int), .slice p ys.length c], .int .i64 (v : Int)] wx (RetI wx (NL v))) ∧ (∀ v : Nat, nearOf ((n : Int), ys) (v : Int) = NL v)) := Lib.hid ⟨fun v => nearOf ((n : Int), ys) (v : Int), fun wx v h ht => implNearOf_any wx _ _ _ h ht, fun _ => rfl⟩
  obtain ⟨NL, hn1, hn2⟩ := HNR.out
  have CN := Lib.hid hn1
  simp only [hn2] at HCF
  clear hn1 hn2 HNR hgo hok
  refine HGV.out.mono ?_
  rintro e w6 ⟨rfl, hb⟩
  have hw56 := hb.size
  replace HB := Lib.hid (HB.out.tr hb); replace HR := Lib.hid (HR.out.keep hb); replace X := Lib.hid (box_keep X.out hb); replace HX := Lib.hid (HX.out.keep hb); clear hb HGV k0 k1
  have hxc : Hid (∀ k, k < n → ∃ b o, ax = some ⟨b, o, none⟩ ∧ b < w6.heap.size ∧ w6.cell? ⟨b, o + k, none⟩ = some (.int .i64 (D.getD k 0))) := by
    have h1 := HX.out
    rw [← hdn] at *
    obtain ⟨a', c', hv, -, -, h3⟩ := h1.int
    simp only [Value.slice.injEq, true_and] at hv
    obtain ⟨rfl, rfl⟩ := hv
    exact h3
  generalize hdl' : D.length = dl at *
  subst hdn
  clear hdl' HX
  have k0 := box_cell X.out 0 _ rfl; have k1 := box_cell X.out 1 _ rfl
  go_wp2_with fail
  go_loopw [5] (fun i wr => ∃ v : Nat, v ≤ dl ∧ i = .int .i64 v ∧ Hid (Below w6.heap.size w6 wr)) (fun i _ => dl - (intOf i).toNat)
  case atStart => exact ⟨0, Nat.zero_le _, rfl, Lib.hid (Below.refl _ _)⟩
  case round =>
    obtain ⟨v, hv, rfl, HI⟩ := hrel
    have X2 := Lib.hid (box_keep X.out HI.out); have HR2 := Lib.hid (HR.out.keep HI.out); have HT2 := Lib.hid ((HTB.out.keep HB.out).keep HI.out)
    have z0 := box_cell X2.out 0 _ rfl; have z1 := box_cell X2.out 1 _ rfl
    by_cases hvl : v < dl
    · have CX := Lib.hid (CN.out wr v HR2.out HT2.out)
      obtain ⟨hf0, hf1, hf2, hf3, hf4⟩ := HCF.out v hvl
      have HFA := Lib.hid hf1; have HST := Lib.hid hf4
      obtain ⟨bx, ox, rfl, hbx, cv0⟩ := hxc.out v hvl
      have HXC : Hid (∀ k, k < dl → w6.cell? ⟨bx, ox + k, none⟩ = some (.int .i64 (D.getD k 0))) := Lib.hid fun k hk => by
        obtain ⟨b', o', hb', -, c'⟩ := hxc.out k hk
        simp only [Option.some.injEq, Addr.mk.injEq, and_true] at hb'
        obtain ⟨rfl, rfl⟩ := hb'
        exact c'
      generalize hG : cntB (geB D v dl) (NL v) = G at *
      generalize hM : cntB (gtB D v dl) (NL v) = M at *
      have HG := Lib.hid hG; have HM := Lib.hid hM
      generalize NL v = N at *
      generalize hxv : D.getD v 0 = xv at *
      have HS0 : Hid (cntB (geB D v dl) (N.take 0) = 0 ∧ cntB (gtB D v dl) (N.take 0) = 0) := Lib.hid (by simp [cntB])
      clear hf1 hf4 hG hM hxv k0 k1
      go_wp2_with fail
      refine CX.out.mono ?_
      rintro e w7 ⟨s, rfl, hs, hb⟩
      obtain ⟨an, cn, rfl, hcn, hcn2⟩ := Rd.form hs.rd
      have HI7 := Lib.hid (HI.out.tr hb)
      have HNc : Hid (∀ k, k < N.length → ∃ b off, an = some ⟨b, off, none⟩ ∧ b < w7.heap.size ∧ w7.cell? ⟨b, off + k, none⟩ = some (.int .i64 (N.getD k 0))) := by
        obtain ⟨a', c', hv, -, -, h3⟩ := hs.rd.int
        simp only [Value.slice.injEq, true_and] at hv
        obtain ⟨rfl, rfl⟩ := hv
        exact h3
      clear hb hs CX z0 z1 HI X2 HR2 HT2
      generalize hnl : N.length = nl at *
      have HNLL := Lib.hid hnl; clear hnl
      go_wp2_with fail
      go_loopw [7, 8, 9] (fun mv rv i wv => ∃ (j m r : Nat), j ≤ nl ∧ m ≤ j ∧ r ≤ j ∧ i = .int .i64 j ∧ mv = .int .i64 m ∧ rv = .int .i64 r ∧ Hid (cntB (geB D v dl) (N.take j) = m ∧ cntB (gtB D v dl) (N.take j) = r) ∧ Hid (Below w7.heap.size w7 wv)) (fun _ _ i _ => nl - (intOf i).toNat)
      case atStart => exact ⟨0, 0, 0, Nat.zero_le _, Nat.zero_le _, Nat.zero_le _, rfl, rfl, rfl, HS0, Lib.hid (Below.refl _ _)⟩
      case round =>
        clear HS0
        obtain ⟨j, m, r, hj, hmj, hrj, rfl, rfl, rfl, HS, HW⟩ := hrel
        have HI9 := Lib.hid (HI7.out.tr HW.out)
        have cv := (HI9.out.cell (p := ⟨bx, ox + v, none⟩) hbx).trans cv0
        by_cases hjl : j < nl
        · obtain ⟨b1, o1, rfl, hb1, cj0⟩ := HNc.out j hjl
          obtain ⟨u, hu, hul⟩ := HFA.out j hjl
          have hst := HST.out j u hjl hu
          rw [hu] at cj0
          have cj := (HW.out.cell (p := ⟨b1, o1 + j, none⟩) hb1).trans cj0
          have cu := (HI9.out.cell (p := ⟨bx, ox + u, none⟩) hbx).trans (HXC.out u hul)
          rw [HS.out.1, HS.out.2] at hst
          clear hu cj0
          generalize D.getD u 0 = xu at *
          rcases (by omega : xv < xu ∨ xv = xu ∨ xu < xv) with hc | hc | hc
          · have HS9 := Lib.hid (hst.1 hc)
            clear hst HS
            go_wp2_with fail
            go_quiet (fail)
            have hbz : Below wr.heap.size wr (wr.drewN nq) := (Below.refl _ _).drewN' _
            generalize wr.drewN nq = wz at *
            have dj := (hbz.cell (p := ⟨b1, o1 + j, none⟩) (World.block_lt_of_cell? _ _ cj)).trans cj; have du := (hbz.cell (p := ⟨bx, ox + u, none⟩) (World.block_lt_of_cell? _ _ cu)).trans cu; have dv := (hbz.cell (p := ⟨bx, ox + v, none⟩) (World.block_lt_of_cell? _ _ cv)).trans cv
            replace HW := Lib.hid (HW.out.tr hbz)
            clear hbz cj cu cv
            go_wp2_with fail
            go_quiet (fail)
            have hbz : Below wz.heap.size wz (wz.drewN nq) := (Below.refl _ _).drewN' _
            generalize wz.drewN nq = wy at *
            replace HW := Lib.hid (HW.out.tr hbz)
            clear hbz dj du dv
            go_wp2_with fail
            go_roundw
            case rel => exact ⟨j + 1, m + 1, r + 1, by omega, by omega, by omega, by go_num, by go_num, by go_num, HS9, HW⟩
            case measure => simp [intOf]; omega
          · subst hc
            have HS9 := Lib.hid (hst.2.1 rfl)
            clear hst HS
            go_wp2_with fail
            go_quiet (fail)
            have hbz : Below wr.heap.size wr (wr.drewN nq) := (Below.refl _ _).drewN' _
            generalize wr.drewN nq = wz at *
            have dj := (hbz.cell (p := ⟨b1, o1 + j, none⟩) (World.block_lt_of_cell? _ _ cj)).trans cj; have du := (hbz.cell (p := ⟨bx, ox + u, none⟩) (World.block_lt_of_cell? _ _ cu)).trans cu; have dv := (hbz.cell (p := ⟨bx, ox + v, none⟩) (World.block_lt_of_cell? _ _ cv)).trans cv
            replace HW := Lib.hid (HW.out.tr hbz)
            clear hbz cj cu cv
            go_wp2_with fail
            go_quiet (fail)
            have hbz : Below wz.heap.size wz (wz.drewN nq) := (Below.refl _ _).drewN' _
            generalize wz.drewN nq = wy at *
            replace HW := Lib.hid (HW.out.tr hbz)
            clear hbz dj du dv
            go_wp2_with fail
            go_roundw
            case rel => exact ⟨j + 1, m + 1, r, by omega, by omega, by omega, by go_num, by go_num, rfl, HS9, HW⟩
            case measure => simp [intOf]; omega
          · have HS9 := Lib.hid (hst.2.2 hc)
            clear hst HS
            go_wp2_with fail
            go_quiet (fail)
            have hbz : Below wr.heap.size wr (wr.drewN nq) := (Below.refl _ _).drewN' _
            generalize wr.drewN nq = wz at *
            have dj := (hbz.cell (p := ⟨b1, o1 + j, none⟩) (World.block_lt_of_cell? _ _ cj)).trans cj; have du := (hbz.cell (p := ⟨bx, ox + u, none⟩) (World.block_lt_of_cell? _ _ cu)).trans cu; have dv := (hbz.cell (p := ⟨bx, ox + v, none⟩) (World.block_lt_of_cell? _ _ cv)).trans cv
            replace HW := Lib.hid (HW.out.tr hbz)
            clear hbz cj cu cv
            go_wp2_with fail
            go_quiet (fail)
            have hbz : Below wz.heap.size wz (wz.drewN nq) := (Below.refl _ _).drewN' _
            generalize wz.drewN nq = wy at *
            replace HW := Lib.hid (HW.out.tr hbz)
            clear hbz dj du dv
            go_wp2_with fail
            go_roundw
            case rel => exact ⟨j + 1, m, r, by omega, by omega, by omega, by go_num, rfl, rfl, HS9, HW⟩
            case measure => simp [intOf]; omega
        · obtain rfl : j = nl := by omega
          have hm9 : m = G ∧ r = M := by
            have h1 := HS.out
            rw [List.take_of_length_le (by rw [HNLL.out]; exact Nat.le_refl _), HG.out, HM.out] at h1
            exact ⟨h1.1.symm, h1.2.symm⟩
          obtain ⟨rfl, rfl⟩ := hm9
          go_wp2_with fail
          go_roundw
          case rel => exact ⟨v + 1, by omega, by go_num, HI9⟩
          case measure => simp [intOf]; omega
    · obtain rfl : v = dl := by omega
      have HB9 := Lib.hid (HB.out.tr HI.out)
      go_wp2_with fail
      go_ret
      exact ⟨rfl, HB9.out⟩
set_option maxRecDepth 100000 in
theorem FnCoresOf_met (os : Os) (args : Array Value) : laidMetH Tryd.prog [("math/bits.deBruijn32tab", Rows.laid_math_bits_deBruijn32tab)] ((World.doorLaid Tryd.prog 400 os).forCall (fun _ _ => 0) ⟨#[], args, []⟩).memory :=
  laidMetH_of_parts3 (fuel := 8) (laidMet_of_run' 8 (by kernel_rfl) (by kernel_rfl)) (by kernel_rfl) (by kernel_rfl)
set_option maxRecDepth 100000 in
theorem FnCoresOf_lifted (os : Os) (started : os.Started) (H : Type) (enc : TypeId × Value → H) :
    ReturnsInHanded {} Tryd.checked os 8 .any (fun w args => (Rows.fnCoresOfSpec.pre enc Tryd.prog Tryd.f8 [] false w args ∧ laidMetH Tryd.prog [("math/bits.deBruijn32tab", Rows.laid_math_bits_deBruijn32tab)] w) ∧ sizedMet enc Tryd.prog Tryd.f8 (OpenSpec.ofChange Rows.fnCoresOfSpec) false w args)
      (Rows.fnCoresOfSpec.post enc Tryd.prog Tryd.f8 false true false false) := by
  refine returnsInHanded_of_change_and (C := Tryd.checked) (X := fun w _ => laidMetH Tryd.prog [("math/bits.deBruijn32tab", Rows.laid_math_bits_deBruijn32tab)] w) (fun _ _ _ hh h => h.of_heap hh) tryOwn started (by kernel_rfl) Tryd.func8
    (ChangeSpec.witness_shaped (enc := enc) (C := Tryd.checked) (os := os) (X := fun w _ => laidMetH Tryd.prog [("math/bits.deBruijn32tab", Rows.laid_math_bits_deBruijn32tab)] w) false (World.doorLaid Tryd.prog 400 os) #[.slice none 0 0] 8 rfl (World.shaped_of_RefB (by kernel_rfl) (by kernel_rfl)) (by kernel_rfl) (by kernel_rfl) (by kernel_rfl) (FnCoresOf_met os _)) ?_
  intro W base args ds gs before hval0 hW _ _ hL _
  have hval : ∀ (j : Nat) t v, Tryd.f8.params[j]? = some t → args[j]? = some v → Value.okWide Tryd.prog W .any base t v := hval0
  have hW' := hW
  obtain ⟨p, q, hA0, hV, rfl, hfz, hnd⟩ := hW
  have hA : DataW.TrodAll enc Tryd.prog W 0 (fun _ => true) true Tryd.f8.params.toList args.toList ds p := hA0
  rw [Tryd.params8] at hA hval
  obtain ⟨v0, vs0, d0, ds0, p0, q0, hargs, rfl, rfl, h0, r0⟩ := trodAll_cons hA
  obtain ⟨rfl, rfl, rfl⟩ := trodAll_nil r0
  obtain rfl : args = #[v0] := by cases args; simp_all
  obtain ⟨rfl, rfl⟩ := trodVars_none hV
  have k0 := h0
  have lt0 : ∀ x ∈ p0, x.block < W.heap.size := by obtain ⟨m, hm⟩ := k0; exact DataW.trod_lt m _ _ _ hm
  obtain ⟨c0, len0, cap0, rfl⟩ := okWide_slice Tryd.underlying39 (hval 0 39 v0 rfl rfl)
  obtain ⟨n0, x0, t0⟩ := trod_of rfl h0
  obtain ⟨xs0, w0, g0⟩ := trod_bytes Tryd.underlying39 Tryd.underlying5 (by kernel_rfl) t0
  clear hA0 hval0
  refine (FnCoresOf_walk W _ xs0 w0 g0 (tab_of_laid hL)).mono fun e W' ⟨he, bel⟩ => ?_
  subst he
  exact ⟨_, rfl, _, _, _, [], _, [], hW', trodAll_mk1 (shut_bool Tryd.underlying4 _), (trodAll_cons_mk (Below.trod tryLaidOut (by kernel_rfl) (of_decide_eq_true (by kernel_rfl)) k0 bel lt0) trodAll_mk0), rfl, bel.frame _, fun h => by cases h⟩

set_option maxHeartbeats 4000000 in
set_option maxRecDepth 100000 in
theorem FnCoresOf_holds : Rows.FnCoresOfSaid := by
  refine OpenClaim.holds_of_wide 8 Tryd.f8 rfl rfl rfl rfl rfl rfl rfl ⟨rfl, rfl, rfl, rfl, rfl⟩ rfl rfl rfl rfl rfl ?hfn Tryd.func8 ?closed ?hinst ?hwrap (fun os started H enc _ => FnCoresOf_lifted os started H enc)
  case hfn => as_aux_lemma => kernel_rfl
  case hinst => exact of_decide_eq_true (by as_aux_lemma => kernel_rfl)
  case hwrap => unfold Func.isWrapper; first | (rw [if_pos (by decide +kernel)]; kernel_rfl) | (rw [if_neg (by decide +kernel)]; exact ⟨rfl, rfl⟩)
  case closed =>
    simp only [joinedFacts, Bool.and_eq_true]
    repeat' apply And.intro
    all_goals first
      | with_reducible exact mayEnter_ok
      | (rewrite [liftsFinal_no]; as_aux_lemma => kernel_rfl)
      | (rewrite [make_cut]; as_aux_lemma => kernel_rfl)
      | as_aux_lemma => kernel_rfl

set_option maxRecDepth 100000 in
theorem FnCoresOf_card : Rows.FnCoresOfCardSaid := by
  refine Claim7.holds_tied_plain_at .later [] [.data] true (true, "aa143172c02fffba66903e69babc7d609952a345a85777f0e899e2f1d2be2e16") true
    FnCoresOf_holds (fun _ h => by cases h) (by kernel_rfl) (fun _ h => by cases h) fnCoresOf_row_tie rfl ⟨rfl, rfl⟩ (by kernel_rfl) rfl ?_ (by kernel_rfl)
  intro f fn hf hfn
  obtain rfl : f = 8 := Option.some.inj ((show Tryd.prog.funcNamed "loop.example/graphcluster/laws.FnCoresOf" = some 8 by kernel_rfl).symm.trans hf) |>.symm
  obtain rfl : fn = Tryd.f8 := (Option.some.inj (Tryd.func8.symm.trans hfn)).symm
  refine ⟨by kernel_rfl, fun j t ht => ?_⟩
  rw [Tryd.params8] at ht
  have hm : t ∈ [39] := by simpa using Array.mem_of_getElem? ht
  have hall : ([39].all fun u => !Tryd.prog.wantsStandIn u) = true := by kernel_rfl
  exact (show Tryd.prog.wantsStandIn t = false by simpa using List.all_eq_true.1 hall t hm)
end Go.Proofs.YtobhekkgbccoiaaDoor
