/-
  Triangles are counted once: together they are as many as there are three vertices that are all neighbours: for every code: no condition.
-/
import Derived.Test.YtobhekkgbccoiaaDoorArgs
import Derived.Test.YtobhekkgbccoiaaDoorDense
import Derived.Test.YtobhekkgbccoiaaDoorTriC
import Derived.Test.YtobhekkgbccoiaaDoorRelX
import Derived.Test.YtobhekkgbccoiaaDoorSame
import Derived.Test.YtobhekkgbccoiaaDoorBytes
import Derived.Test.YtobhekkgbccoiaaDoorFacts
import Derived.Test.YtobhekkgbccoiaaDoorTab
import Derived.Test.YtobhekkgbccoiaaDoorCards
import Derived.Test.YtobhekkgbccoiaaDoorTie
import Derived.LaidMore
import Derived.OpenShut
import Derived.Stop.Joined
import Derived.SevenTiedAt
namespace Go.Proofs.YtobhekkgbccoiaaDoor
open Go.ChangeShapes Go.WideShapes Go.ChangeAt Go.RowKit
set_option linter.unusedVariables false

set_option maxRecDepth 100000 in
theorem lawsHas_any (w : World) (s : Value) (L : List Int) (z : Int) (h : Rd w 1 s L.length (ints L)) : Calls Tryd.prog 29 #[s, .int .i64 z] w fun e w' => e = .returned (.bool (decide (z ∈ L))) ∧ w = w' := by
  obtain ⟨a, c, rfl, hc, hm, hcell⟩ := h.int
  obtain ⟨b, hb⟩ : ∃ b, decide (z ∈ L) = b := ⟨_, rfl⟩
  rw [hb]
  have HBV := Lib.hid hb; clear hb
  generalize hl : L.length = l at *
  have HL := Lib.hid hl; clear hl
  go_enter Tryd.func29, Tryd.ntmps29
  go_wp2_with fail
  go_loopw [5] (fun i wr => wr = w ∧ ∃ k : Nat, k ≤ l ∧ i = .int .i64 k ∧ Hid (∀ j, j < k → L.getD j 0 ≠ z)) (fun i _ => l - (intOf i).toNat)
  case atStart => exact ⟨rfl, 0, Nat.zero_le _, rfl, Lib.hid fun j hj => by omega⟩
  case round =>
    obtain ⟨rfl, k, hk, rfl, HN⟩ := hrel
    by_cases hlt : k < l
    · obtain ⟨b1, o1, rfl, -, c0⟩ := hcell.out k hlt
      by_cases hz : L.getD k 0 = z
      · have hbt : b = true := by
          rw [← HBV.out]
          refine decide_eq_true ?_
          rw [← hz]
          have : k < L.length := by rw [HL.out]; exact hlt
          simp [this]
        subst hbt
        generalize L.getD k 0 = x at *
        have e : (x == z) = true := by simpa using hz
        clear hz
        go_wp2_with fail
        go_ret
        exact ⟨rfl, rfl⟩
      · have HN2 : Hid (∀ j, j < k + 1 → L.getD j 0 ≠ z) := Lib.hid fun j hj => by
          by_cases hjk : j = k
          · subst hjk; exact hz
          · exact HN.out j (by omega)
        generalize L.getD k 0 = x at *
        have e : (x == z) = false := by simpa using hz
        clear hz
        go_wp2_with fail
        go_roundw
        case rel => exact ⟨trivial, k + 1, by omega, by go_num, HN2⟩
        case measure => simp [intOf]; omega
    · obtain rfl : k = l := by omega
      have hbf : b = false := by
        rw [← HBV.out]
        refine decide_eq_false fun hm => ?_
        obtain ⟨j, hj, he⟩ := List.mem_iff_getElem.1 hm
        refine HN.out j (by rw [← HL.out]; exact hj) ?_
        simp [hj, he]
      subst hbf
      go_wp2_with fail
      go_ret
      exact ⟨rfl, rfl⟩

set_option maxRecDepth 100000 in
set_option maxHeartbeats 8000000 in
theorem FnTrianglesAt_walk (w : World) (va : Value) (bs : List Int) (hv : Rd w 1 va bs.length (bys bs)) (hx : ∀ x ∈ bs, 0 ≤ x ∧ x ≤ 255) (HT : TabW w) :
    Calls Tryd.prog 6 #[va] w fun e w' => e = .returned (.bool true) ∧ Below w.heap.size w w' := by
  have HDR := Lib.hid (DrawTrianglesAt_any w va bs hv hx)
  have HTB := Lib.hid HT; clear HT
  obtain ⟨hlb, av, acap, rfl, hcap, hmc, hcell⟩ := hv
  clear hlb hcap hmc hcell hx
  by_cases hl : bs.length ≤ 1048576
  case neg =>
    have hl' : decide ((bs.length : Int) > 1048576) = true := by simp; omega
    go_enter Tryd.func6, Tryd.ntmps6
    go_wp2_with fail
    go_ret
    exact ⟨rfl, Below.refl _ _⟩
  case pos =>
  have hl' : decide ((bs.length : Int) > 1048576) = false := by simp; omega
  go_enter Tryd.func6, Tryd.ntmps6
  go_wp2_with fail
  refine HDR.out.mono ?_
  rintro e w1 ⟨p, c, g, rfl, hr, hlen, hgm, hc, hb1⟩
  have hA : Below w1.heap.size w1 (w1.alloc (.cells #[.int .i64 g.1, .slice p g.2.length c] 30)) := (Below.refl _ _).alloc (Nat.le_refl _) _
  have HB := Lib.hid (hb1.tr hA); have HR := Lib.hid (hr.keep hA); have X := Lib.hid (heap_alloc_new w1 (.cells #[.int .i64 g.1, .slice p g.2.length c] 30))
  have hs2 : (w1.alloc (.cells #[.int .i64 g.1, .slice p g.2.length c] 30)).heap.size = w1.heap.size + 1 := by simp
  clear hA hb1 hr HDR hl'
  have k0 := box_cell X.out 0 (.int .i64 g.1) rfl; have k1 := box_cell X.out 1 (.slice p g.2.length c) rfl
  go_wp2_with fail
  generalize (w1.alloc (.cells #[.int .i64 g.1, .slice p g.2.length c] 30)) = w2 at *
  have HIM := Lib.hid (implTrianglesAt_any w2 _ g HR.out (HTB.out.keep HB.out))
  have HSP := Lib.hid fun wx h => specTrianglesAt_any wx (.agg #[.int .i64 g.1, .slice p g.2.length c]) g h
  have HNE := Lib.hid (fun h : graphOk g = false => show trianglesAt g = [] by unfold trianglesAt; rw [h]; rfl)
  have HYE := Lib.hid (fun h : graphOk g = true => show trianglesAt g = triTo g g.1.toNat by unfold trianglesAt; rw [if_pos h])
  have hdl := trianglesAt_length g
  generalize trianglesAt g = D at *
  refine HIM.out.mono ?_
  rintro e w3 ⟨s, rfl, hs, hb⟩
  obtain ⟨ax, cx, rfl, hcx, hcx2⟩ := Rd.form hs.rd
  have HX := Lib.hid hs.rd
  have hw23 := hb.size
  replace HB := Lib.hid (HB.out.tr hb); replace HR := Lib.hid (HR.out.keep hb); replace X := Lib.hid (box_keep X.out hb); clear hb hs HIM k0 k1
  have k0 := box_cell X.out 0 (.int .i64 g.1) rfl; have k1 := box_cell X.out 1 (.slice p g.2.length c) rfl
  go_wp2_with fail
  refine (HSP.out _ HR.out).mono ?_
  rintro e w4 ⟨s, rfl, hs, hb⟩
  obtain ⟨ay, cy, rfl, -, -⟩ := Rd.form hs.rd
  have HY := Lib.hid hs.rd
  have hw34 := hb.size
  replace HB := Lib.hid (HB.out.tr hb); replace HR := Lib.hid (HR.out.keep hb); replace X := Lib.hid (box_keep X.out hb); replace HX := Lib.hid (HX.out.keep hb); clear hb hs HSP k0 k1
  go_wp2_with fail
  refine (sameInts_same w4 _ _ D HX.out HY.out).mono ?_
  rintro e w5 ⟨rfl, hb⟩
  have hw45 := hb.size
  replace HB := Lib.hid (HB.out.tr hb); replace HR := Lib.hid (HR.out.keep hb); replace X := Lib.hid (box_keep X.out hb); replace HX := Lib.hid (HX.out.keep hb); clear hb HY
  have k0 := box_cell X.out 0 (.int .i64 g.1) rfl; have k1 := box_cell X.out 1 (.slice p g.2.length c) rfl
  go_wp2_with fail
  have HGV := Lib.hid (specGraphValid_any w5 _ g HR.out)
  cases hok : graphOk g
  · rw [hok] at HGV
    have hD := HNE.out hok
    subst hD
    refine HGV.out.mono ?_
    rintro e w6 ⟨rfl, hb⟩
    replace HB := Lib.hid (HB.out.tr hb); clear hb k0 k1 HNE HYE
    go_wp2_with fail
    refine (alive_any _).mono ?_
    rintro e w7 ⟨rfl, hb⟩
    replace HB := Lib.hid (HB.out.tr hb); clear hb
    go_wp2_with fail
    go_ret
    exact ⟨rfl, HB.out⟩
  rw [hok] at HGV
  have hgo := graphOk_yes hok
  have hD := HYE.out hok
  subst hD
  have HNR := Lib.hid fun (wx : World) (v : Int) h ht => implNearOf_any wx (.agg #[.int .i64 g.1, .slice p g.2.length c]) g v h ht
  have HTM := Lib.hid (tri_many hgo)
  have HDG : Hid (∀ v, v < g.1.toNat → (triTo g g.1.toNat).getD v 0 = ((triAt g v : Nat) : Int)) := Lib.hid fun v hv => by simp [triTo, hv]
  have HNL := Lib.hid (nearOf_length g)
  have hmm := hgo.1
  have hdn := triTo_length g g.1.toNat
  generalize triTo g g.1.toNat = D at *
  obtain ⟨n, hn⟩ : ∃ n, g.1.toNat = n := ⟨_, rfl⟩
  have hgn : g.1 = (n : Int) := by omega
  have hn16 : n ≤ 16 := by omega
  rw [hn] at HTM HDG hdn
  have HSB : Hid (∀ t, t ≤ n → sumN (triAt g) t ≤ 4096) := Lib.hid fun t ht => by
    have := sumN_bound (triAt g) 256 (triAt_le g) t; omega
  have HMB : Hid (∀ t, t ≤ n → sumN (manyAt g) t ≤ 4096) := Lib.hid fun t ht => by
    have := sumN_bound (manyAt g) 256 (manyAt_le g) t; omega
  have HGN := Lib.hid hgn; clear hgn hn
  clear HNE HYE hok hgo
  refine HGV.out.mono ?_
  rintro e w6 ⟨rfl, hb⟩
  have hw56 := hb.size
  replace HB := Lib.hid (HB.out.tr hb); replace HR := Lib.hid (HR.out.keep hb); replace X := Lib.hid (box_keep X.out hb); replace HX := Lib.hid (HX.out.keep hb); clear hb HGV k0 k1
  have hxc : Hid (∀ k, k < n → ∃ b o, ax = some ⟨b, o, none⟩ ∧ b < w6.heap.size ∧ w6.cell? ⟨b, o + k, none⟩ = some (.int .i64 (D.getD k 0))) := by
    have h1 := HX.out
    rw [← hdn] at *
    obtain ⟨a', c', hv, -, -, h3⟩ := h1.int
    simp only [Value.slice.injEq, true_and] at hv
    obtain ⟨rfl, rfl⟩ := hv
    exact h3
  generalize hdl' : D.length = dl at *
  subst hdn
  clear hdl' HX
  go_wp2_with fail
  go_loopw [5, 6] (fun q i wr => wr = w6 ∧ ∃ t : Nat, t ≤ dl ∧ i = .int .i64 t ∧ q = .int .i64 ((sumN (triAt g) t : Nat) : Int)) (fun _ i _ => dl - (intOf i).toNat)
  case atStart => exact ⟨rfl, 0, Nat.zero_le _, rfl, rfl⟩
  case round =>
    obtain ⟨rfl, t, ht, rfl, rfl⟩ := hrel
    have hsb := HSB.out t ht
    by_cases hlt : t < dl
    · obtain ⟨b1, o1, rfl, -, c1⟩ := hxc.out t hlt
      have hg := HDG.out t hlt
      rw [hg] at c1
      have hsb2 := HSB.out (t + 1) hlt
      have hss : sumN (triAt g) (t + 1) = sumN (triAt g) t + triAt g t := rfl
      rw [hss] at hsb2
      generalize triAt g t = A at *
      go_wp2_with fail
      go_roundw
      case rel => exact ⟨trivial, t + 1, by omega, by go_num, by rw [hss]; go_num⟩
      case measure => simp [intOf]; omega
    · obtain rfl : t = dl := by omega
      have hfin := HTM.out
      generalize hS : sumN (triAt g) t = S at *
      clear hS
      have HF := Lib.hid hfin; clear hfin HSB HDG hxc
      go_wp2_with fail
      generalize wr = wz at *
      go_loopw [7, 8] (fun q i wv => ∃ a : Nat, a ≤ t ∧ i = .int .i64 a ∧ q = .int .i64 ((sumN (manyAt g) a : Nat) : Int) ∧ Hid (Below wz.heap.size wz wv)) (fun _ i _ => t - (intOf i).toNat)
      case atStart => exact ⟨0, Nat.zero_le _, rfl, rfl, Lib.hid (Below.refl _ _)⟩
      case round =>
        obtain ⟨a, ha, rfl, rfl, HI⟩ := hrel
        have X2 := Lib.hid (box_keep X.out HI.out); have HR2 := Lib.hid (HR.out.keep HI.out); have HT2 := Lib.hid ((HTB.out.keep HB.out).keep HI.out)
        have k0 := box_cell X2.out 0 (.int .i64 g.1) rfl; have k1 := box_cell X2.out 1 (.slice p g.2.length c) rfl
        by_cases hat : a < t
        · have hat' : decide ((a : Int) < g.1) = true := by rw [HGN.out]; simpa using hat
          have CN := Lib.hid (HNR.out wr (a : Int) HR2.out HT2.out)
          have hmb := HMB.out (a + 1) hat
          have HMD := Lib.hid (manyR_drop g (a : Int) (nearOf g (a : Int)))
          have hm0 : manyAt g a = manyR g (a : Int) ((nearOf g (a : Int)).drop 0) := rfl
          have hsm : sumN (manyAt g) (a + 1) = sumN (manyAt g) a + manyAt g a := rfl
          have HA0 : Hid (sumN (manyAt g) a + manyR g (a : Int) ((nearOf g (a : Int)).drop 0) = sumN (manyAt g) (a + 1)) := Lib.hid (by rw [hsm, hm0])
          have hnl := HNL.out (a : Int)
          clear hm0 hsm
          generalize nearOf g (a : Int) = N at *
          obtain ⟨B, hB⟩ : ∃ B, sumN (manyAt g) (a + 1) = B := ⟨_, rfl⟩
          rw [hB] at hmb HA0
          have HBB := Lib.hid hB; clear hB
          generalize sumN (manyAt g) a = A0 at *
          go_wp2_with fail
          refine CN.out.mono ?_
          rintro e w7 ⟨s, rfl, hs, hb⟩
          obtain ⟨an, cn, rfl, hcn, hcn2⟩ := Rd.form hs.rd
          have HNd := Lib.hid hs.rd
          have HI7 := Lib.hid (HI.out.tr hb); have X7 := Lib.hid (box_keep X2.out hb); have HR7 := Lib.hid (HR2.out.keep hb); have HT7 := Lib.hid (HT2.out.keep hb)
          clear hb hs CN k0 k1
          have HNc : Hid (∀ k, k < N.length → ∃ b off, an = some ⟨b, off, none⟩ ∧ b < w7.heap.size ∧ w7.cell? ⟨b, off + k, none⟩ = some (.int .i64 (N.getD k 0))) := by
            obtain ⟨a', c', hv, -, -, h3⟩ := HNd.out.int
            simp only [Value.slice.injEq, true_and] at hv
            obtain ⟨rfl, rfl⟩ := hv
            exact h3
          clear HNd
          generalize hnl' : N.length = nl at *
          have HNE := Lib.hid hnl'; clear hnl'
          have k0 := box_cell X7.out 0 (.int .i64 g.1) rfl; have k1 := box_cell X7.out 1 (.slice p g.2.length c) rfl
          go_wp2_with fail
          go_loopw [7, 10] (fun q i wv => ∃ (i' b : Nat), i' ≤ nl ∧ i = .int .i64 i' ∧ q = .int .i64 b ∧ Hid (b + manyR g (a : Int) (N.drop i') = B) ∧ Hid (Below w7.heap.size w7 wv)) (fun _ i _ => nl - (intOf i).toNat)
          case atStart => exact ⟨0, A0, Nat.zero_le _, rfl, rfl, HA0, Lib.hid (Below.refl _ _)⟩
          case round =>
            clear HA0
            obtain ⟨i, b, hi, rfl, rfl, HA, HW⟩ := hrel
            by_cases hil : i < nl
            · obtain ⟨b1, o1, rfl, hb1, ci⟩ := HNc.out i hil
              have HNd : Hid (∀ k, k < nl → w7.cell? ⟨b1, o1 + k, none⟩ = some (.int .i64 (N.getD k 0))) := Lib.hid fun k hk => by
                obtain ⟨b', o', hb', -, c'⟩ := HNc.out k hk
                simp only [Option.some.injEq, Addr.mk.injEq, and_true] at hb'
                obtain ⟨rfl, rfl⟩ := hb'
                exact c'
              have HA2 : Hid (b + (N.drop (i + 1)).countP (fun c => decide ((a : Int) < N.getD i 0) && decide (c ∈ nearOf g (N.getD i 0))) + manyR g (a : Int) (N.drop (i + 1)) = B) := Lib.hid (by
                have h1 := HA.out; rw [HMD.out i hil] at h1; omega)
              have CX := Lib.hid fun wx h ht => HNR.out wx (N.getD i 0) h ht
              generalize N.getD i 0 = x at *
              generalize nearOf g x = Lx at *
              generalize hRR : manyR g (a : Int) (N.drop (i + 1)) = RR at *
              have HRR := Lib.hid hRR; clear hRR
              have HCD := Lib.hid fun j => count_drop (fun c => decide ((a : Int) < x) && decide (c ∈ Lx)) N j
              go_wp2_with fail
              go_loopw [7, 11] (fun q i' wv => ∃ (j b : Nat), i + 1 ≤ j ∧ j ≤ nl ∧ i' = .int .i64 j ∧ q = .int .i64 b ∧ Hid (b + (N.drop j).countP (fun c => decide ((a : Int) < x) && decide (c ∈ Lx)) + RR = B) ∧ Hid (Below w7.heap.size w7 wv)) (fun _ i _ => nl - (intOf i).toNat)
              case atStart => exact ⟨i + 1, b, Nat.le_refl _, hil, by go_num, rfl, HA2, HW⟩
              case round =>
                clear HA2 HW HA
                obtain ⟨j, b, hij, hj, rfl, rfl, HA, HW⟩ := hrel
                have ha1 := HA.out
                by_cases hjl : j < nl
                · have cj := HNd.out j hjl
                  have hcd := HCD.out j (by rw [HNE.out]; exact hjl)
                  generalize N.getD j 0 = y at *
                  have X9 := Lib.hid (box_keep X7.out HW.out); have HR9 := Lib.hid (HR7.out.keep HW.out); have HT9 := Lib.hid (HT7.out.keep HW.out)
                  have HI9 := Lib.hid (HI7.out.tr HW.out)
                  have hbr : b1 < wr.heap.size := Nat.lt_of_lt_of_le hb1 HW.out.size
                  have hxl := box_lt X9.out
                  have ci' := (HW.out.cell (p := ⟨b1, o1 + i, none⟩) hb1).trans ci
                  have cj' := (HW.out.cell (p := ⟨b1, o1 + j, none⟩) hb1).trans cj
                  obtain ⟨bx, hbx⟩ : ∃ bx, decide ((a : Int) < x) = bx := ⟨_, rfl⟩
                  obtain ⟨bv, hbv⟩ : ∃ bv, decide (y ∈ Lx) = bv := ⟨_, rfl⟩
                  have HBX := Lib.hid hbx; have HBV := Lib.hid hbv
                  rw [hbx, hbv] at hcd
                  have HCJ := Lib.hid hcd; clear hcd hbv cj
                  go_wp2_with fail
                  clear k0 k1
                  cases bx
                  · refine wp_region_relxA (fun x => { tmps := #[.slice av bs.length acap, undef, .bool false, .pointer (some ⟨w1.heap.size, 0, none⟩), .slice ax t cx, .int .i64 (S : Int), .int .i64 (t : Int), .int .i64 (b : Int), .int .i64 (a : Int), .slice (some ⟨b1, o1, none⟩) nl cn, .int .i64 (i : Int), .int .i64 (j : Int), .slice av bs.length acap, .int .i64 (bs.length : Int), .bool false, .slice av bs.length acap, .agg #[.int .i64 g.fst, .slice p g.snd.length c], .agg #[.int .i64 g.fst, .slice p g.snd.length c], .slice ax t cx, .slice ax t cx, .agg #[.int .i64 g.fst, .slice p g.snd.length c], .slice ay t cy, .bool true, .bool false, .agg #[.int .i64 g.fst, .slice p g.snd.length c], .bool true, .bool false, undef, undef, undef, undef, undef, undef, .int .i64 (t : Int), .slice ax t cx, .int .i64 (t : Int), .bool false, u37, u38, u39, u40, u41, u42, u43, u44, .int .i64 (a : Int), .pointer (some ⟨w1.heap.size, 0, none⟩), .int .i64 g.fst, .bool true, u49, u50, .agg #[.int .i64 g.fst, .slice p g.snd.length c], .int .i64 (a : Int), .slice (some ⟨b1, o1, none⟩) nl cn, .int .i64 (i : Int), .slice (some ⟨b1, o1, none⟩) nl cn, .int .i64 (nl : Int), .bool true, u58, u59, .int .i64 (i : Int), .int .i64 ((i : Int) + 1), .int .i64 (j : Int), .slice (some ⟨b1, o1, none⟩) nl cn, .int .i64 (nl : Int), .bool true, u66, u67, x 68, x 69, x 70, x 71, x 72, x 73, x 74, x 75, x 76, x 77, x 78, x 79, x 80, x 81, x 82, x 83, x 84, x 85, x 86, u87, u88, undef, undef, undef, undef, undef, undef, undef, undef, undef, undef], defers := [] })
                      (fun _ _ _ wx => Below wr.heap.size wr wx) (fun _ wx wy => Below wx.heap.size wx wy)
                      (Tl [cst (.slice (some ⟨b1, o1, none⟩) nl cn), cst (.int .i64 (i : Int)), cst (.pointer (some ⟨b1, o1 + i, none⟩)), cst (.int .i64 x), cst (.int .i64 (a : Int)), cst (.bool false), cst (.bool false), tru, tru, tru, tru, tru, tru, tru, tru, tru, tru, tru, cst (.bool false)]) rfl
                      (by kernel_rfl) (by kernel_rfl) (by kernel_rfl) (stab_Tl ?hst) (fun _ _ => Below.refl _ _) (Below.refl _ _).drew ?hput ?hop ?hend
                    case hst =>
                      simp only [List.mem_cons, List.not_mem_nil, or_false, forall_eq_or_imp, forall_eq]
                      refine ⟨?_, ?_, ?_, ?_, ?_, ?_, ?_, ?_, ?_, ?_, ?_, ?_, ?_, ?_, ?_, ?_, ?_, ?_, ?_⟩
                      all_goals first | exact stab_cst _ _ | exact stab_tru _ | exact fun _ _ _ hb h => (by obtain ⟨a, c, h1, h2⟩ := h; exact ⟨a, c, h1, h2.keep hb⟩)
                    case hput =>
                      refine ⟨?_, ?_, ?_, ?_, ?_, ?_, ?_, ?_, ?_, ?_, ?_, ?_, ?_, ?_, ?_, ?_, ?_, ?_, ?_, trivial⟩
                      all_goals first | exact fun x v => rfl | exact trivial
                    case hop =>
                      refine ⟨?_, ?_, ?_, ?_, ?_, ?_, ?_, ?_, ?_, ?_, ?_, ?_, ?_, ?_, ?_, ?_, ?_, ?_, ?_, trivial⟩
                      · refine OpRelX.plain rfl fun n L x wx K hn hL hG hdep hK => ?_
                        clear hdep
                        go_simp
                        exact hK _ _ hG (Below.refl _ _) rfl
                      · refine OpRelX.plain rfl fun n L x wx K hn hL hG hdep hK => ?_
                        clear hdep
                        go_simp
                        exact hK _ _ hG (Below.refl _ _) rfl
                      · refine OpRelX.plain rfl fun n L x wx K hn hL hG hdep hK => ?_
                        have h68 : x 68 = _ := (hdep 0 rfl).2 _ rfl
                        have h69 : x 69 = _ := (hdep 1 rfl).2 _ rfl
                        clear hdep
                        simp only [h68, h69] at hK
                        go_simp
                        exact hK _ _ hG (Below.refl _ _) rfl
                      · refine OpRelX.plain rfl fun n L x wx K hn hL hG hdep hK => ?_
                        have h70 : x 70 = _ := (hdep 2 rfl).2 _ rfl
                        have z := (hG.cell (p := ⟨b1, o1 + i, none⟩) hbr).trans ci'
                        clear hdep
                        simp only [h70] at hK
                        go_simp
                        exact hK _ _ hG (Below.refl _ _) rfl
                      · refine OpRelX.plain rfl fun n L x wx K hn hL hG hdep hK => ?_
                        clear hdep
                        go_simp
                        exact hK _ _ hG (Below.refl _ _) rfl
                      · refine OpRelX.plain rfl fun n L x wx K hn hL hG hdep hK => ?_
                        have h71 : x 71 = _ := (hdep 3 rfl).2 _ rfl
                        have h72 : x 72 = _ := (hdep 4 rfl).2 _ rfl
                        clear hdep
                        simp only [h71, h72] at hK
                        go_simp
                        exact hK _ _ hG (Below.refl _ _) rfl
                      · refine OpRelX.plain rfl fun n L x wx K hn hL hG hdep hK => ?_
                        have h73 : x 73 = _ := (hdep 5 rfl).2 _ rfl
                        clear hdep
                        simp only [h73] at hK
                        go_simp
                        exact hK _ _ hG (Below.refl _ _) rfl
                      · refine OpRelX.guarded false ?_ (fun n L x wx hG hdep => by have h : x 74 = _ := (hdep 6 rfl).2 _ rfl; simp [Region.wanted, yielded, h]) ?_
                        · intro n L x wx K hn hL hG hdep h; cases h
                        · intro n L x wx hn hL hG hdep _; exact ⟨trivial, hG⟩
                      · refine OpRelX.guarded false ?_ (fun n L x wx hG hdep => by have h : x 74 = _ := (hdep 6 rfl).2 _ rfl; simp [Region.wanted, yielded, h]) ?_
                        · intro n L x wx K hn hL hG hdep h; cases h
                        · intro n L x wx hn hL hG hdep _; exact ⟨trivial, hG⟩
                      · refine OpRelX.guarded false ?_ (fun n L x wx hG hdep => by have h : x 74 = _ := (hdep 6 rfl).2 _ rfl; simp [Region.wanted, yielded, h]) ?_
                        · intro n L x wx K hn hL hG hdep h; cases h
                        · intro n L x wx hn hL hG hdep _; exact ⟨trivial, hG⟩
                      · refine OpRelX.guarded false ?_ (fun n L x wx hG hdep => by have h : x 74 = _ := (hdep 6 rfl).2 _ rfl; simp [Region.wanted, yielded, h]) ?_
                        · intro n L x wx K hn hL hG hdep h; cases h
                        · intro n L x wx hn hL hG hdep _; exact ⟨trivial, hG⟩
                      · refine OpRelX.guarded false ?_ (fun n L x wx hG hdep => by have h : x 74 = _ := (hdep 6 rfl).2 _ rfl; simp [Region.wanted, yielded, h]) ?_
                        · intro n L x wx K hn hL hG hdep h; cases h
                        · intro n L x wx hn hL hG hdep _; exact ⟨trivial, hG⟩
                      · refine OpRelX.guarded false ?_ (fun n L x wx hG hdep => by have h : x 74 = _ := (hdep 6 rfl).2 _ rfl; simp [Region.wanted, yielded, h]) ?_
                        · intro n L x wx K hn hL hG hdep h; cases h
                        · intro n L x wx hn hL hG hdep _; exact ⟨trivial, hG⟩
                      · refine OpRelX.guarded false ?_ (fun n L x wx hG hdep => by have h : x 74 = _ := (hdep 6 rfl).2 _ rfl; simp [Region.wanted, yielded, h]) ?_
                        · intro n L x wx K hn hL hG hdep h; cases h
                        · intro n L x wx hn hL hG hdep _; exact ⟨trivial, hG⟩
                      · refine OpRelX.guarded false ?_ (fun n L x wx hG hdep => by have h : x 74 = _ := (hdep 6 rfl).2 _ rfl; simp [Region.wanted, yielded, h]) ?_
                        · intro n L x wx K hn hL hG hdep h; cases h
                        · intro n L x wx hn hL hG hdep _; exact ⟨trivial, hG⟩
                      · refine OpRelX.guarded false ?_ (fun n L x wx hG hdep => by have h : x 74 = _ := (hdep 6 rfl).2 _ rfl; simp [Region.wanted, yielded, h]) ?_
                        · intro n L x wx K hn hL hG hdep h; cases h
                        · intro n L x wx hn hL hG hdep _; exact ⟨trivial, hG⟩
                      · refine OpRelX.guarded false ?_ (fun n L x wx hG hdep => by have h : x 74 = _ := (hdep 6 rfl).2 _ rfl; simp [Region.wanted, yielded, h]) ?_
                        · intro n L x wx K hn hL hG hdep h; cases h
                        · intro n L x wx hn hL hG hdep _; exact ⟨trivial, hG⟩
                      · refine OpRelX.guarded false ?_ (fun n L x wx hG hdep => by have h : x 74 = _ := (hdep 6 rfl).2 _ rfl; simp [Region.wanted, yielded, h]) ?_
                        · intro n L x wx K hn hL hG hdep h; cases h
                        · intro n L x wx hn hL hG hdep _; exact ⟨trivial, hG⟩
                      · refine OpRelX.plain rfl fun n L x wx K hn hL hG hdep hK => ?_
                        have h74 : x 74 = _ := (hdep 6 rfl).2 _ rfl
                        clear hdep
                        simp only [h74] at hK
                        go_simp
                        exact hK _ _ hG (Below.refl _ _) rfl
                    case hend =>
                      intro n' L x' wx _ hG hh
                      have h86 : x' 86 = _ := (hh 18 (by decide)).2 _ rfl
                      clear hh
                      have HW9 := Lib.hid (HW.out.tr hG)
                      clear hG
                      simp only [h86]
                      have HA9 : Hid (b + (N.drop (j + 1)).countP (fun c => false && decide (c ∈ Lx)) + RR = B) := Lib.hid (by have h1 := HA.out; rw [HBX.out, HCJ.out] at h1; unfold tick at h1; simp at h1 ⊢; omega)
                      go_wp2_with fail
                      go_roundw
                      case rel => exact ⟨j + 1, _, by omega, by omega, by go_num, by go_num, by rw [HBX.out]; exact HA9, HW9⟩
                      case measure => simp [intOf]; omega
                  · refine wp_region_relxA (fun x => { tmps := #[.slice av bs.length acap, undef, .bool false, .pointer (some ⟨w1.heap.size, 0, none⟩), .slice ax t cx, .int .i64 (S : Int), .int .i64 (t : Int), .int .i64 (b : Int), .int .i64 (a : Int), .slice (some ⟨b1, o1, none⟩) nl cn, .int .i64 (i : Int), .int .i64 (j : Int), .slice av bs.length acap, .int .i64 (bs.length : Int), .bool false, .slice av bs.length acap, .agg #[.int .i64 g.fst, .slice p g.snd.length c], .agg #[.int .i64 g.fst, .slice p g.snd.length c], .slice ax t cx, .slice ax t cx, .agg #[.int .i64 g.fst, .slice p g.snd.length c], .slice ay t cy, .bool true, .bool false, .agg #[.int .i64 g.fst, .slice p g.snd.length c], .bool true, .bool false, undef, undef, undef, undef, undef, undef, .int .i64 (t : Int), .slice ax t cx, .int .i64 (t : Int), .bool false, u37, u38, u39, u40, u41, u42, u43, u44, .int .i64 (a : Int), .pointer (some ⟨w1.heap.size, 0, none⟩), .int .i64 g.fst, .bool true, u49, u50, .agg #[.int .i64 g.fst, .slice p g.snd.length c], .int .i64 (a : Int), .slice (some ⟨b1, o1, none⟩) nl cn, .int .i64 (i : Int), .slice (some ⟨b1, o1, none⟩) nl cn, .int .i64 (nl : Int), .bool true, u58, u59, .int .i64 (i : Int), .int .i64 ((i : Int) + 1), .int .i64 (j : Int), .slice (some ⟨b1, o1, none⟩) nl cn, .int .i64 (nl : Int), .bool true, u66, u67, x 68, x 69, x 70, x 71, x 72, x 73, x 74, x 75, x 76, x 77, x 78, x 79, x 80, x 81, x 82, x 83, x 84, x 85, x 86, u87, u88, undef, undef, undef, undef, undef, undef, undef, undef, undef, undef], defers := [] })
                      (fun _ _ _ wx => Below wr.heap.size wr wx) (fun _ wx wy => Below wx.heap.size wx wy)
                      (Tl [cst (.slice (some ⟨b1, o1, none⟩) nl cn), cst (.int .i64 (i : Int)), cst (.pointer (some ⟨b1, o1 + i, none⟩)), cst (.int .i64 x), cst (.int .i64 (a : Int)), cst (.bool true), cst (.bool true), cst (.agg #[.int .i64 g.1, .slice p g.2.length c]), cst (.slice (some ⟨b1, o1, none⟩) nl cn), cst (.int .i64 (i : Int)), cst (.pointer (some ⟨b1, o1 + i, none⟩)), cst (.int .i64 x), (fun v wx => ∃ a c, v = .slice a Lx.length c ∧ Rd wx 1 v Lx.length (ints Lx)), cst (.slice (some ⟨b1, o1, none⟩) nl cn), cst (.int .i64 (j : Int)), cst (.pointer (some ⟨b1, o1 + j, none⟩)), cst (.int .i64 y), cst (.bool bv), cst (.bool bv)]) rfl
                      (by kernel_rfl) (by kernel_rfl) (by kernel_rfl) (stab_Tl ?hst) (fun _ _ => Below.refl _ _) (Below.refl _ _).drew ?hput ?hop ?hend
                    case hst =>
                      simp only [List.mem_cons, List.not_mem_nil, or_false, forall_eq_or_imp, forall_eq]
                      refine ⟨?_, ?_, ?_, ?_, ?_, ?_, ?_, ?_, ?_, ?_, ?_, ?_, ?_, ?_, ?_, ?_, ?_, ?_, ?_⟩
                      all_goals first | exact stab_cst _ _ | exact stab_tru _ | exact fun _ _ _ hb h => (by obtain ⟨a, c, h1, h2⟩ := h; exact ⟨a, c, h1, h2.keep hb⟩)
                    case hput =>
                      refine ⟨?_, ?_, ?_, ?_, ?_, ?_, ?_, ?_, ?_, ?_, ?_, ?_, ?_, ?_, ?_, ?_, ?_, ?_, ?_, trivial⟩
                      all_goals first | exact fun x v => rfl | exact trivial
                    case hop =>
                      refine ⟨?_, ?_, ?_, ?_, ?_, ?_, ?_, ?_, ?_, ?_, ?_, ?_, ?_, ?_, ?_, ?_, ?_, ?_, ?_, trivial⟩
                      · refine OpRelX.plain rfl fun n L x wx K hn hL hG hdep hK => ?_
                        clear hdep
                        go_simp
                        exact hK _ _ hG (Below.refl _ _) rfl
                      · refine OpRelX.plain rfl fun n L x wx K hn hL hG hdep hK => ?_
                        clear hdep
                        go_simp
                        exact hK _ _ hG (Below.refl _ _) rfl
                      · refine OpRelX.plain rfl fun n L x wx K hn hL hG hdep hK => ?_
                        have h68 : x 68 = _ := (hdep 0 rfl).2 _ rfl
                        have h69 : x 69 = _ := (hdep 1 rfl).2 _ rfl
                        clear hdep
                        simp only [h68, h69] at hK
                        go_simp
                        exact hK _ _ hG (Below.refl _ _) rfl
                      · refine OpRelX.plain rfl fun n L x wx K hn hL hG hdep hK => ?_
                        have h70 : x 70 = _ := (hdep 2 rfl).2 _ rfl
                        have z := (hG.cell (p := ⟨b1, o1 + i, none⟩) hbr).trans ci'
                        clear hdep
                        simp only [h70] at hK
                        go_simp
                        exact hK _ _ hG (Below.refl _ _) rfl
                      · refine OpRelX.plain rfl fun n L x wx K hn hL hG hdep hK => ?_
                        clear hdep
                        go_simp
                        exact hK _ _ hG (Below.refl _ _) rfl
                      · refine OpRelX.plain rfl fun n L x wx K hn hL hG hdep hK => ?_
                        have h71 : x 71 = _ := (hdep 3 rfl).2 _ rfl
                        have h72 : x 72 = _ := (hdep 4 rfl).2 _ rfl
                        clear hdep
                        simp only [h71, h72] at hK
                        go_simp
                        exact hK _ _ hG (Below.refl _ _) rfl
                      · refine OpRelX.plain rfl fun n L x wx K hn hL hG hdep hK => ?_
                        have h73 : x 73 = _ := (hdep 5 rfl).2 _ rfl
                        clear hdep
                        simp only [h73] at hK
                        go_simp
                        exact hK _ _ hG (Below.refl _ _) rfl
                      · refine OpRelX.guarded true ?_ (fun n L x wx hG hdep => by have h : x 74 = _ := (hdep 6 rfl).2 _ rfl; simp [Region.wanted, yielded, h]) ?_
                        · intro n L x wx K hn hL hG hdep _ hK
                          have hX := box_keep X9.out hG; have z0 := box_cell hX 0 (.int .i64 g.1) rfl; have z1 := box_cell hX 1 (.slice p g.2.length c) rfl
                          clear hdep
                          go_simp
                          exact hK _ _ hG (Below.refl _ _) rfl
                        · intro n L x wx hn hL hG hdep h; cases h
                      · refine OpRelX.guarded true ?_ (fun n L x wx hG hdep => by have h : x 74 = _ := (hdep 6 rfl).2 _ rfl; simp [Region.wanted, yielded, h]) ?_
                        · intro n L x wx K hn hL hG hdep _ hK
                          clear hdep
                          go_simp
                          exact hK _ _ hG (Below.refl _ _) rfl
                        · intro n L x wx hn hL hG hdep h; cases h
                      · refine OpRelX.guarded true ?_ (fun n L x wx hG hdep => by have h : x 74 = _ := (hdep 6 rfl).2 _ rfl; simp [Region.wanted, yielded, h]) ?_
                        · intro n L x wx K hn hL hG hdep _ hK
                          clear hdep
                          go_simp
                          exact hK _ _ hG (Below.refl _ _) rfl
                        · intro n L x wx hn hL hG hdep h; cases h
                      · refine OpRelX.guarded true ?_ (fun n L x wx hG hdep => by have h : x 74 = _ := (hdep 6 rfl).2 _ rfl; simp [Region.wanted, yielded, h]) ?_
                        · intro n L x wx K hn hL hG hdep _ hK
                          have h76 : x 76 = _ := (hdep 8 rfl).2 _ rfl
                          have h77 : x 77 = _ := (hdep 9 rfl).2 _ rfl
                          clear hdep
                          simp only [h76, h77] at hK
                          go_simp
                          exact hK _ _ hG (Below.refl _ _) rfl
                        · intro n L x wx hn hL hG hdep h; cases h
                      · refine OpRelX.guarded true ?_ (fun n L x wx hG hdep => by have h : x 74 = _ := (hdep 6 rfl).2 _ rfl; simp [Region.wanted, yielded, h]) ?_
                        · intro n L x wx K hn hL hG hdep _ hK
                          have h78 : x 78 = _ := (hdep 10 rfl).2 _ rfl
                          have z := (hG.cell (p := ⟨b1, o1 + i, none⟩) hbr).trans ci'
                          clear hdep
                          simp only [h78] at hK
                          go_simp
                          exact hK _ _ hG (Below.refl _ _) rfl
                        · intro n L x wx hn hL hG hdep h; cases h
                      · refine OpRelX.guarded true ?_ (fun n L x wx hG hdep => by have h : x 74 = _ := (hdep 6 rfl).2 _ rfl; simp [Region.wanted, yielded, h]) ?_
                        · intro n L x wx K hn hL hG hdep _ hK
                          have h75 : x 75 = _ := (hdep 7 rfl).2 _ rfl
                          have h79 : x 79 = _ := (hdep 11 rfl).2 _ rfl
                          clear hdep
                          simp only [h75, h79] at hK
                          go_simp
                          refine (CX.out _ (HR9.out.keep hG) (HT9.out.keep hG)).mono ?_
                          rintro e w8 ⟨s, rfl, hs, hb⟩
                          obtain ⟨a8, c8, rfl, -, -⟩ := Rd.form hs.rd
                          exact hK _ _ (hG.tr hb) hb ⟨_, _, rfl, hs.rd⟩
                        · intro n L x wx hn hL hG hdep h; cases h
                      · refine OpRelX.guarded true ?_ (fun n L x wx hG hdep => by have h : x 74 = _ := (hdep 6 rfl).2 _ rfl; simp [Region.wanted, yielded, h]) ?_
                        · intro n L x wx K hn hL hG hdep _ hK
                          clear hdep
                          go_simp
                          exact hK _ _ hG (Below.refl _ _) rfl
                        · intro n L x wx hn hL hG hdep h; cases h
                      · refine OpRelX.guarded true ?_ (fun n L x wx hG hdep => by have h : x 74 = _ := (hdep 6 rfl).2 _ rfl; simp [Region.wanted, yielded, h]) ?_
                        · intro n L x wx K hn hL hG hdep _ hK
                          clear hdep
                          go_simp
                          exact hK _ _ hG (Below.refl _ _) rfl
                        · intro n L x wx hn hL hG hdep h; cases h
                      · refine OpRelX.guarded true ?_ (fun n L x wx hG hdep => by have h : x 74 = _ := (hdep 6 rfl).2 _ rfl; simp [Region.wanted, yielded, h]) ?_
                        · intro n L x wx K hn hL hG hdep _ hK
                          have h81 : x 81 = _ := (hdep 13 rfl).2 _ rfl
                          have h82 : x 82 = _ := (hdep 14 rfl).2 _ rfl
                          clear hdep
                          simp only [h81, h82] at hK
                          go_simp
                          exact hK _ _ hG (Below.refl _ _) rfl
                        · intro n L x wx hn hL hG hdep h; cases h
                      · refine OpRelX.guarded true ?_ (fun n L x wx hG hdep => by have h : x 74 = _ := (hdep 6 rfl).2 _ rfl; simp [Region.wanted, yielded, h]) ?_
                        · intro n L x wx K hn hL hG hdep _ hK
                          have h83 : x 83 = _ := (hdep 15 rfl).2 _ rfl
                          have z := (hG.cell (p := ⟨b1, o1 + j, none⟩) hbr).trans cj'
                          clear hdep
                          simp only [h83] at hK
                          go_simp
                          exact hK _ _ hG (Below.refl _ _) rfl
                        · intro n L x wx hn hL hG hdep h; cases h
                      · refine OpRelX.guarded true ?_ (fun n L x wx hG hdep => by have h : x 74 = _ := (hdep 6 rfl).2 _ rfl; simp [Region.wanted, yielded, h]) ?_
                        · intro n L x wx K hn hL hG hdep _ hK
                          have h84 : x 84 = _ := (hdep 16 rfl).2 _ rfl
                          obtain ⟨a8, c8, h80, hr8⟩ := (hdep 12 rfl).2 _ rfl
                          clear hdep
                          simp only [h80, h84] at hK
                          rw [h80] at hr8
                          go_simp
                          refine (lawsHas_any _ _ _ y hr8).mono ?_
                          rintro e w8 ⟨rfl, rfl⟩
                          exact hK _ _ hG (Below.refl _ _) (by rw [HBV.out]; rfl)
                        · intro n L x wx hn hL hG hdep h; cases h
                      · refine OpRelX.plain rfl fun n L x wx K hn hL hG hdep hK => ?_
                        have h74 : x 74 = _ := (hdep 6 rfl).2 _ rfl
                        have h85 : x 85 = _ := (hdep 17 rfl).2 _ rfl
                        clear hdep
                        simp only [h74, h85] at hK
                        go_simp
                        exact hK _ _ hG (Below.refl _ _) rfl
                    case hend =>
                      intro n' L x' wx _ hG hh
                      have h86 : x' 86 = _ := (hh 18 (by decide)).2 _ rfl
                      clear hh
                      have HW9 := Lib.hid (HW.out.tr hG)
                      clear hG
                      simp only [h86]
                      cases bv
                      · have HA9 : Hid (b + (N.drop (j + 1)).countP (fun c => true && decide (c ∈ Lx)) + RR = B) := Lib.hid (by have h1 := HA.out; rw [HBX.out, HCJ.out] at h1; unfold tick at h1; simp at h1 ⊢; omega)
                        go_wp2_with fail
                        go_roundw
                        case rel => exact ⟨j + 1, _, by omega, by omega, by go_num, by go_num, by rw [HBX.out]; exact HA9, HW9⟩
                        case measure => simp [intOf]; omega
                      · have HA9 : Hid (b + 1 + (N.drop (j + 1)).countP (fun c => true && decide (c ∈ Lx)) + RR = B) := Lib.hid (by have h1 := HA.out; rw [HBX.out, HCJ.out] at h1; unfold tick at h1; simp at h1 ⊢; omega)
                        go_wp2_with fail
                        go_roundw
                        case rel => exact ⟨j + 1, _, by omega, by omega, by go_num, by go_num, by rw [HBX.out]; exact HA9, HW9⟩
                        case measure => simp [intOf]; omega
                · obtain rfl : j = nl := by omega
                  have HA9 : Hid (b + RR = B) := Lib.hid (by
                    rw [List.drop_of_length_le (by rw [HNE.out]; exact Nat.le_refl _)] at ha1
                    simpa using ha1)
                  go_wp2_with fail
                  go_roundw
                  case rel => exact ⟨i + 1, b, by omega, by go_num, rfl, by rw [HRR.out]; exact HA9, HW⟩
                  case measure => simp [intOf]; omega
            · obtain rfl : i = nl := by omega
              have HA9 : Hid (b = B) := Lib.hid (by
                have h1 := HA.out
                rw [List.drop_of_length_le (by rw [HNE.out]; exact Nat.le_refl _)] at h1
                simpa [manyR] using h1)
              have HW9 := Lib.hid (HI7.out.tr HW.out)
              obtain rfl := HA9.out
              go_wp2_with fail
              go_roundw
              case rel => exact ⟨a + 1, by omega, by go_num, by rw [HBB.out], HW9⟩
              case measure => simp [intOf]; omega
        · obtain rfl : a = t := by omega
          have hat' : decide ((a : Int) < g.1) = false := by rw [HGN.out]; simp
          have hS := HF.out
          rw [← hS]
          have e2 : ((a : Int) == g.1) = true := by rw [HGN.out]; simp
          have HB9 := Lib.hid (HB.out.tr HI.out)
          clear hS HTM HF HMB
          go_wp2_with fail
          go_ret
          exact ⟨rfl, HB9.out⟩
set_option maxRecDepth 100000 in
theorem FnTrianglesAt_met (os : Os) (args : Array Value) : laidMetH Tryd.prog [("math/bits.deBruijn32tab", Rows.laid_math_bits_deBruijn32tab)] ((World.doorLaid Tryd.prog 400 os).forCall (fun _ _ => 0) ⟨#[], args, []⟩).memory :=
  laidMetH_of_parts3 (fuel := 8) (laidMet_of_run' 8 (by kernel_rfl) (by kernel_rfl)) (by kernel_rfl) (by kernel_rfl)
set_option maxRecDepth 100000 in
theorem FnTrianglesAt_lifted (os : Os) (started : os.Started) (H : Type) (enc : TypeId × Value → H) :
    ReturnsInHanded {} Tryd.checked os 6 .any (fun w args => (Rows.fnTrianglesAtSpec.pre enc Tryd.prog Tryd.f6 [] false w args ∧ laidMetH Tryd.prog [("math/bits.deBruijn32tab", Rows.laid_math_bits_deBruijn32tab)] w) ∧ sizedMet enc Tryd.prog Tryd.f6 (OpenSpec.ofChange Rows.fnTrianglesAtSpec) false w args)
      (Rows.fnTrianglesAtSpec.post enc Tryd.prog Tryd.f6 false true false false) := by
  refine returnsInHanded_of_change_and (C := Tryd.checked) (X := fun w _ => laidMetH Tryd.prog [("math/bits.deBruijn32tab", Rows.laid_math_bits_deBruijn32tab)] w) (fun _ _ _ hh h => h.of_heap hh) tryOwn started (by kernel_rfl) Tryd.func6
    (ChangeSpec.witness_shaped (enc := enc) (C := Tryd.checked) (os := os) (X := fun w _ => laidMetH Tryd.prog [("math/bits.deBruijn32tab", Rows.laid_math_bits_deBruijn32tab)] w) false (World.doorLaid Tryd.prog 400 os) #[.slice none 0 0] 8 rfl (World.shaped_of_RefB (by kernel_rfl) (by kernel_rfl)) (by kernel_rfl) (by kernel_rfl) (by kernel_rfl) (FnTrianglesAt_met os _)) ?_
  intro W base args ds gs before hval0 hW _ _ hL _
  have hval : ∀ (j : Nat) t v, Tryd.f6.params[j]? = some t → args[j]? = some v → Value.okWide Tryd.prog W .any base t v := hval0
  have hW' := hW
  obtain ⟨p, q, hA0, hV, rfl, hfz, hnd⟩ := hW
  have hA : DataW.TrodAll enc Tryd.prog W 0 (fun _ => true) true Tryd.f6.params.toList args.toList ds p := hA0
  rw [Tryd.params6] at hA hval
  obtain ⟨v0, vs0, d0, ds0, p0, q0, hargs, rfl, rfl, h0, r0⟩ := trodAll_cons hA
  obtain ⟨rfl, rfl, rfl⟩ := trodAll_nil r0
  obtain rfl : args = #[v0] := by cases args; simp_all
  obtain ⟨rfl, rfl⟩ := trodVars_none hV
  have k0 := h0
  have lt0 : ∀ x ∈ p0, x.block < W.heap.size := by obtain ⟨m, hm⟩ := k0; exact DataW.trod_lt m _ _ _ hm
  obtain ⟨c0, len0, cap0, rfl⟩ := okWide_slice Tryd.underlying39 (hval 0 39 v0 rfl rfl)
  obtain ⟨n0, x0, t0⟩ := trod_of rfl h0
  obtain ⟨xs0, w0, g0⟩ := trod_bytes Tryd.underlying39 Tryd.underlying5 (by kernel_rfl) t0
  clear hA0 hval0
  refine (FnTrianglesAt_walk W _ xs0 w0 g0 (tab_of_laid hL)).mono fun e W' ⟨he, bel⟩ => ?_
  subst he
  exact ⟨_, rfl, _, _, _, [], _, [], hW', trodAll_mk1 (shut_bool Tryd.underlying4 _), (trodAll_cons_mk (Below.trod tryLaidOut (by kernel_rfl) (of_decide_eq_true (by kernel_rfl)) k0 bel lt0) trodAll_mk0), rfl, bel.frame _, fun h => by cases h⟩

set_option maxHeartbeats 4000000 in
set_option maxRecDepth 100000 in
theorem FnTrianglesAt_holds : Rows.FnTrianglesAtSaid := by
  refine OpenClaim.holds_of_wide 6 Tryd.f6 rfl rfl rfl rfl rfl rfl rfl ⟨rfl, rfl, rfl, rfl, rfl⟩ rfl rfl rfl rfl rfl ?hfn Tryd.func6 ?closed ?hinst ?hwrap (fun os started H enc _ => FnTrianglesAt_lifted os started H enc)
  case hfn => as_aux_lemma => kernel_rfl
  case hinst => exact of_decide_eq_true (by as_aux_lemma => kernel_rfl)
  case hwrap => unfold Func.isWrapper; first | (rw [if_pos (by decide +kernel)]; kernel_rfl) | (rw [if_neg (by decide +kernel)]; exact ⟨rfl, rfl⟩)
  case closed =>
    simp only [joinedFacts, Bool.and_eq_true]
    repeat' apply And.intro
    all_goals first
      | with_reducible exact mayEnter_ok
      | (rewrite [liftsFinal_no]; as_aux_lemma => kernel_rfl)
      | (rewrite [make_cut]; as_aux_lemma => kernel_rfl)
      | as_aux_lemma => kernel_rfl

set_option maxRecDepth 100000 in
theorem FnTrianglesAt_card : Rows.FnTrianglesAtCardSaid := by
  refine Claim7.holds_tied_plain_at .later [] [.data] true (true, "aa143172c02fffba66903e69babc7d609952a345a85777f0e899e2f1d2be2e16") true
    FnTrianglesAt_holds (fun _ h => by cases h) (by kernel_rfl) (fun _ h => by cases h) fnTrianglesAt_row_tie rfl ⟨rfl, rfl⟩ (by kernel_rfl) rfl ?_ (by kernel_rfl)
  intro f fn hf hfn
  obtain rfl : f = 6 := Option.some.inj ((show Tryd.prog.funcNamed "loop.example/graphcluster/laws.FnTrianglesAt" = some 6 by kernel_rfl).symm.trans hf) |>.symm
  obtain rfl : fn = Tryd.f6 := (Option.some.inj (Tryd.func6.symm.trans hfn)).symm
  refine ⟨by kernel_rfl, fun j t ht => ?_⟩
  rw [Tryd.params6] at ht
  have hm : t ∈ [39] := by simpa using Array.mem_of_getElem? ht
  have hall : ([39].all fun u => !Tryd.prog.wantsStandIn u) = true := by kernel_rfl
  exact (show Tryd.prog.wantsStandIn t = false by simpa using List.all_eq_true.1 hall t hm)
end Go.Proofs.YtobhekkgbccoiaaDoor
