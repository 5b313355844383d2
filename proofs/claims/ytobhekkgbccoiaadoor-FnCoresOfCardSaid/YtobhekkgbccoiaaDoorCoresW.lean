/-
  Cores: the program's function and the reference's.
-/
import Derived.Test.YtobhekkgbccoiaaDoorPeel
import Derived.Test.YtobhekkgbccoiaaDoorDegrees
namespace Go.Proofs.YtobhekkgbccoiaaDoor
open Go.RowKit
set_option linter.unusedVariables false

def bitsV : Value → Nat
  | .int _ z => (bitsOf z.toNat).length
  | _ => 0
set_option maxRecDepth 100000 in
set_option maxHeartbeats 16000000 in
theorem implCoresOf_any (w : World) (va : Value) (g : GraphD) (h : RdGraph w va g) (HT : TabW w) : Calls Tryd.prog 31 #[va] w (RetI w (coresOf g)) := by
  have HTB := Lib.hid HT; clear HT
  have HRG := Lib.hid h
  obtain ⟨p, c, rfl, hr, hc, hmx⟩ := h.form
  clear h hr
  have HNO := Lib.hid (coresOf_no (g := g)); have HYES := Lib.hid (coresOf_is (g := g))
  generalize coresOf g = R at *
  obtain ⟨m, ys⟩ := g
  simp only at hc HNO HYES ⊢
  have HB : Hid (Below w.heap.size w (w.alloc (.cells #[.int .i64 m, .slice p ys.length c] 30))) := Lib.hid (by go_grown)
  have X := Lib.hid (heap_alloc_new w (.cells #[.int .i64 m, .slice p ys.length c] 30))
  have HV := Lib.hid fun wx (hb : Below w.heap.size w wx) => implGraphValid_any wx _ _ (HRG.out.keep hb)
  cases hok : graphOk (m, ys)
  · rw [hok] at HV
    rw [HNO.out hok]
    go_enter Tryd.func31, Tryd.ntmps31
    go_wp2_with fail
    refine (HV.out _ HB.out).mono ?_
    rintro e w1 ⟨rfl, hb⟩
    replace HB := Lib.hid (HB.out.tr hb); clear hb
    go_wp2_with fail
    go_ret
    exact ⟨_, rfl, Ow.nil _ _ _ _ _ _, HB.out⟩
  · rw [hok] at HV
    have hgo := graphOk_yes hok
    have HMS := Lib.hid fun wx (hb : Below w.heap.size w wx) => nearMasks_any wx _ _ (HRG.out.keep hb) hgo
    have hm := hgo.1
    simp only at hm HMS
    replace HYES := Lib.hid (HYES.out hok)
    obtain ⟨n, rfl⟩ := Int.eq_ofNat_of_zero_le hm.1
    rw [Int.toNat_natCast] at HMS HYES
    have hn16 : n ≤ 16 := by omega
    clear hgo hok HNO hm
    generalize nearP ys = f at *
    generalize hl : ys.length = l at *
    clear hl
    have HC0 : Hid (CoreM f n 0 (2 ^ n - 1) (List.replicate n 0)) := Lib.hid (CoreM.start hn16)
    have HZR : Hid (List.replicate n (Value.int .i64 0) = ints (List.replicate n 0)) := Lib.hid (by simp [ints])
    generalize List.replicate n (0 : Int) = C0 at *
    have HMO := Lib.hid fun wx => maskOf_any n (by omega) wx
    have hp1 : 1 ≤ 2 ^ n := Nat.two_pow_pos n
    have hp2 : 2 ^ n ≤ 65536 := Nat.pow_le_pow_right (n := 2) (by decide) hn16
    generalize 2 ^ n = pn at *
    have hsub : IntKind.u32.wrap ((pn : Int) - 1) = ((pn - 1 : Nat) : Int) := by rw [IntKind.wrap_u32]; omega
    generalize pn - 1 = m0 at *
    obtain ⟨i0, hi, hz0, hz1, hz2⟩ := info_parts infoInt
    have Hi := Lib.hid hi; have Hz0 := Lib.hid hz0; have Hz1 := Lib.hid hz1; have Hz2 := Lib.hid hz2; clear hi hz0 hz1 hz2
    have k0 := box_cell X.out 0 _ rfl; have k1 := box_cell X.out 1 _ rfl
    go_enter Tryd.func31, Tryd.ntmps31
    go_wp2_with fail
    refine (HV.out _ HB.out).mono ?_
    rintro e w1 ⟨rfl, hb⟩
    replace HB := Lib.hid (HB.out.tr hb); replace X := Lib.hid (box_keep X.out hb); clear hb HV k0 k1
    have k0 := box_cell X.out 0 _ rfl; have k1 := box_cell X.out 1 _ rfl
    go_wp2_with fail
    refine (HMS.out _ HB.out).mono ?_
    rintro e w3 ⟨b, M, rfl, hbb, ho, hM, hb⟩
    replace HB := Lib.hid (HB.out.tr hb); replace X := Lib.hid (box_keep X.out hb); clear hb k0 k1 HMS
    have HW := Lib.hid ho; have HM := Lib.hid hM; clear ho hM
    have hwb : w.heap.size ≤ w3.heap.size := HB.out.size
    have k0 := box_cell X.out 0 _ rfl; have k1 := box_cell X.out 1 _ rfl
    go_wp2_with (at_make; refine wpList_make_full _ rfl _ _ 26 rfl w3.heap.size 3 i0 (.int .i64 0) 1 Tryd.underlying26 Hi.out Hz0.out Hz1.out _ _ _ _ n rfl rfl rfl rfl (by rw [Hz2.out]; omega) (by unfold maxLen; omega) (Nat.le_refl _) ?_)
    intro w4 hown hgrow
    have hb4 : Below w3.heap.size w3 w4 := (Below.refl _ _).grown hgrow (Nat.le_refl _) (by intro k hk; cases hk)
    have HO : Hid (w4.ownsRow w3.heap.size 3 1 (.slice (some ⟨w3.heap.size, 0, none⟩) n n) n (ints C0)) := Lib.hid (by
      have h := hown
      rw [toList_madeCells_one, HZR.out] at h
      exact h)
    replace HB := Lib.hid (HB.out.tr hb4); replace X := Lib.hid (box_keep X.out hb4)
    have hbl := (HW.out.lt _ rfl).2
    simp only at hbl
    replace HW := Lib.hid (ownsRow_keep HW.out hb4)
    clear hown hgrow hb4 k0 k1 HZR Hi Hz0 Hz1 Hz2
    generalize w3.heap.size = bu at *
    have k0 := box_cell X.out 0 _ rfl; have k1 := box_cell X.out 1 _ rfl
    go_wp2_with fail
    refine (HMO.out _).mono ?_
    rintro e w5 ⟨rfl, hw5⟩
    subst hw5
    go_wp2_with fail
    clear k0 k1 X hsub HMO
    go_loopw [5, 6] (fun mv kv wr => ∃ (k q m : Nat) (C : List Int), Hid (k = q + 1) ∧ mv = .int .u32 (m : Int) ∧ kv = .int .i64 (k : Int) ∧ Hid (CoreM f n q m C) ∧ Hid (wr.ownsRow bu 3 1 (.slice (some ⟨bu, 0, none⟩) n n) n (ints C)) ∧ Hid (wr.ownsRow b 67 1 (.slice (some ⟨b, 0, none⟩) n n) n (mks M)) ∧ Hid (Below w.heap.size w wr)) (fun _ kv _ => n + 2 - (intOf kv).toNat)
    case atStart => exact ⟨1, 0, m0, C0, Lib.hid rfl, rfl, rfl, HC0, HO, HW, HB⟩
    case round =>
      clear HC0 HO HW HB
      obtain ⟨k, q, m, C, HKQ, rfl, rfl, HC, HO, HW, HB⟩ := hrel
      have HCL := Lib.hid HC.out.to.len
      by_cases hm0 : m = 0
      · subst hm0
        have hu := (HC.out.cores).unique HYES.out
        have HO9 := Lib.hid ((Ow.of_row HO.out).mono (show w.heap.size ≤ bu by omega) (Nat.le_refl _))
        subst hu
        go_wp2_with fail
        go_ret
        exact ⟨_, rfl, by rw [HCL.out]; exact HO9.out, HB.out⟩
      · have hqn := HC.out.le hm0
        have hkb : k ≤ 17 := by have := HKQ.out; omega
        have HP := Lib.hid HC.out.peel; have HCT := Lib.hid HC.out.to
        rw [← HKQ.out] at HP
        have hne : ((m : Int) != 0) = true := by simpa using hm0
        have hne2 : ((m : Int) == 0) = false := by simpa using hm0
        clear HC
        go_wp2_with fail
        clear hne hne2 hm0
        go_loopw [5, 7] (fun mv cv wv => ∃ (m1 : Nat) (ch : Bool), mv = .int .u32 (m1 : Int) ∧ cv = .bool ch ∧ Hid (PeelM f n k m1) ∧ Hid (ch = false → Good f n k m1.testBit) ∧ Hid (wv.ownsRow bu 3 1 (.slice (some ⟨bu, 0, none⟩) n n) n (ints C)) ∧ Hid (wv.ownsRow b 67 1 (.slice (some ⟨b, 0, none⟩) n n) n (mks M)) ∧ Hid (Below w.heap.size w wv)) (fun mv cv _ => 2 * bitsV mv + boolN cv)
        case atStart => exact ⟨m, true, rfl, rfl, HP, Lib.hid fun h => (by cases h), HO, HW, HB⟩
        case round =>
          clear HP HO HW HB
          obtain ⟨m1, ch, rfl, rfl, HP, HG, HO, HW, HB⟩ := hrel
          have hsm := HP.out.small
          have CL : Hid (Calls Tryd.prog 54 #[.int .u32 m1] wr (RetI wr (qs (bitsOf m1)))) := Lib.hid (list_any m1 hsm wr (HTB.out.keep HB.out))
          have hll32 : (bitsOf m1).length ≤ 32 := by unfold bitsOf; exact Nat.le_trans (List.length_filter_le _ _) (by simp)
          have hbu := (HO.out.lt _ rfl).2
          have hbb2 := (HW.out.lt _ rfl).2
          simp only at hbu hbb2
          cases ch
          · have HGD := Lib.hid (HG.out rfl)
            have HCI := Lib.hid (CoreIn.start HCT.out (bitsOf m1))
            have HIC : Hid (∀ j, j < (bitsOf m1).length → (bitsOf m1).getD j 0 < n ∧ InCore f n (q + 1) ((bitsOf m1).getD j 0)) := Lib.hid fun j hj => by
              have h1 := bits_get hsm hj
              have h2 := HP.out.bits _ h1
              refine ⟨h2, ?_⟩
              have h3 := (HP.out.peel.core HGD.out h2).1 h1
              rwa [HKQ.out] at h3
            have HFN : Hid (∀ C', CoreIn f n q (fun v => v ∈ (bitsOf m1).take (bitsOf m1).length) C' → CoreM f n (q + 1) m1 C') := Lib.hid fun C' h => by
              have h1 := HP.out; have h2 := HGD.out
              rw [HKQ.out] at h1 h2
              exact h.fin h1 h2
            generalize bitsOf m1 = L at *
            rw [← qs_length] at hll32
            clear HP HG HGD
            go_wp2_with fail
            refine CL.out.mono ?_
            rintro e w5 ⟨sl, rfl, hsl, hb⟩
            obtain ⟨a5, c5, rfl, hc5, hm5⟩ := Rd.form hsl.rd
            have hlo5' := hb.size
            replace HB := Lib.hid (HB.out.tr hb); replace HO := Lib.hid (ownsRow_keep HO.out hb); replace HW := Lib.hid (ownsRow_keep HW.out hb)
            generalize wr.heap.size = lo5 at hsl hlo5' hbu hbb2
            generalize hh5 : w5.heap.size = hi5 at hsl hlo5'
            have HLI := Lib.hid hsl
            clear hsl hb CL hh5
            generalize hll : (qs L).length = ll at *
            have HLL := Lib.hid hll; clear hll
            go_wp2_with fail
            go_loopw [53] (fun i wv => ∃ (j : Nat) (C1 : List Int), j ≤ ll ∧ i = .int .i64 j ∧ Hid (CoreIn f n q (fun v => v ∈ L.take j) C1) ∧ Hid (Ow lo5 hi5 wv 3 1 (.slice a5 ll c5) ll (ints (qs L))) ∧ Hid (wv.ownsRow bu 3 1 (.slice (some ⟨bu, 0, none⟩) n n) n (ints C1)) ∧ Hid (wv.ownsRow b 67 1 (.slice (some ⟨b, 0, none⟩) n n) n (mks M)) ∧ Hid (Below w.heap.size w wv)) (fun i _ => ll - (intOf i).toNat)
            case atStart => exact ⟨0, C, Nat.zero_le _, rfl, HCI, HLI, HO, HW, HB⟩
            case round =>
              clear HCI HLI HO HW HB HCT HCL
              obtain ⟨j, C1, hj, rfl, HCI, HLI, HO, HW, HB⟩ := hrel
              by_cases hjl : j < ll
              · have hjL : j < L.length := by rw [← qs_length, HLL.out]; exact hjl
                have hrd : Rd wr 1 (.slice a5 (qs L).length c5) (qs L).length (ints (qs L)) := by rw [HLL.out]; exact HLI.out.rd
                obtain ⟨a', c', hv, -, -, h3⟩ := hrd.int
                simp only [Value.slice.injEq, true_and] at hv
                obtain ⟨rfl, rfl⟩ := hv
                obtain ⟨b1, o1, rfl, hb1, cq⟩ := h3.out j (by rw [HLL.out]; exact hjl)
                rw [qs_getD hjL] at cq
                obtain ⟨hvn, hic⟩ := HIC.out j hjL
                have hcl := HCI.out.len
                generalize hx : L.getD j 0 = x at *
                have HN := Lib.hid (HCI.out.next hjL hx hvn hic)
                rw [show ((q : Int) + 1) = (k : Int) by have := HKQ.out; omega] at HN
                have cj : wr.cell? ⟨bu, x, none⟩ = some (.int .i64 (C1.getD x 0)) := by rw [HO.out.cellAt x (by omega)]; exact ints_get C1 x (by omega)
                have fj := HO.out.frozenAt x
                have hst := HO.out.stored x (.int .i64 (k : Int))
                rw [ints_set] at hst
                have hc4 := Chg.of_grown hst.2
                have HO9 := Lib.hid hst.1
                have HW9 := Lib.hid (own_side HW.out hc4 (by omega))
                have HS9 := Lib.hid (HLI.out.chg hc4 (by omega))
                have HB9 := Lib.hid (hc4.below HB.out (by omega))
                clear h3 hrd hx hic hst hc4 hcl HO HW HLI HB HCI
                generalize C1.getD x 0 = lj at *
                go_wp2_with fail
                go_roundw
                case rel => exact ⟨j + 1, _, by omega, by go_num, HN, HS9, HO9, HW9, HB9⟩
                case measure => simp [intOf]; omega
              · obtain rfl : j = ll := by omega
                have HM9 := Lib.hid (HFN.out C1 (by have := HCI.out; rwa [← HLL.out, qs_length] at this))
                clear HCI HLI
                go_wp2_with fail
                go_roundw
                case rel => exact ⟨k + 1, k, m1, C1, Lib.hid rfl, rfl, by go_num, by rw [HKQ.out]; exact HM9, HO, HW, HB⟩
                case measure => have := HKQ.out; simp [intOf]; omega
          · have HOP := Lib.hid HP.out.open
            have HLT := Lib.hid fun j (hj : j < (bitsOf m1).length) => HP.out.bits _ (bits_get hsm hj)
            have HGO : Hid (∀ m2 c2, PeelIn f n k m1 (bitsOf m1).length m2 c2 → (bitsOf m2).length ≤ (bitsOf m1).length ∧ (c2 = true → (bitsOf m2).length < (bitsOf m1).length)) := Lib.hid fun m2 c2 h => h.le
            have HB1 : Hid (bitsV (.int .u32 (m1 : Int)) = (bitsOf m1).length) := Lib.hid (by simp [bitsV])
            rw [← qs_length] at hll32
            clear HP HG
            go_wp2_with fail
            refine CL.out.mono ?_
            rintro e w5 ⟨sl, rfl, hsl, hb⟩
            obtain ⟨a5, c5, rfl, hc5, hm5⟩ := Rd.form hsl.rd
            have hlo5' := hb.size
            replace HB := Lib.hid (HB.out.tr hb); replace HO := Lib.hid (ownsRow_keep HO.out hb); replace HW := Lib.hid (ownsRow_keep HW.out hb)
            generalize wr.heap.size = lo5 at hsl hlo5' hbu hbb2
            generalize hh5 : w5.heap.size = hi5 at hsl hlo5'
            have HLI := Lib.hid hsl
            have hhi : hi5 ≤ w5.heap.size := by omega
            clear hsl hb CL hh5
            generalize hll : (qs (bitsOf m1)).length = ll at *
            have HLL := Lib.hid hll; clear hll
            go_wp2_with fail
            go_loopw [5, 7, 32] (fun mv cv i wv => ∃ (j m2 : Nat) (c2 : Bool), j ≤ ll ∧ i = .int .i64 j ∧ mv = .int .u32 (m2 : Int) ∧ cv = .bool c2 ∧ hi5 ≤ wv.heap.size ∧ Hid (PeelIn f n k m1 j m2 c2) ∧ Hid (Ow lo5 hi5 wv 3 1 (.slice a5 ll c5) ll (ints (qs (bitsOf m1)))) ∧ Hid (wv.ownsRow bu 3 1 (.slice (some ⟨bu, 0, none⟩) n n) n (ints C)) ∧ Hid (wv.ownsRow b 67 1 (.slice (some ⟨b, 0, none⟩) n n) n (mks M)) ∧ Hid (Below w.heap.size w wv)) (fun _ _ i _ => ll - (intOf i).toNat)
            case atStart => exact ⟨0, m1, false, Nat.zero_le _, rfl, rfl, rfl, hhi, HOP, HLI, HO, HW, HB⟩
            case round =>
              clear HOP HLI HO HW HB hhi
              obtain ⟨j, m2, c2, hj, rfl, rfl, rfl, hhi, HPI, HLI, HO, HW, HB⟩ := hrel
              by_cases hjl : j < ll
              · have hjL : j < (bitsOf m1).length := by rw [← qs_length, HLL.out]; exact hjl
                have hrd : Rd wr 1 (.slice a5 (qs (bitsOf m1)).length c5) (qs (bitsOf m1)).length (ints (qs (bitsOf m1))) := by rw [HLL.out]; exact HLI.out.rd
                obtain ⟨a', c', hv, -, -, h3⟩ := hrd.int
                simp only [Value.slice.injEq, true_and] at hv
                obtain ⟨rfl, rfl⟩ := hv
                obtain ⟨b1, o1, rfl, hb1, cq⟩ := h3.out j (by rw [HLL.out]; exact hjl)
                rw [qs_getD hjL] at cq
                have hxn := HLT.out j hjL
                have HDR := Lib.hid fun v hv hc => HPI.out.drop hn16 hjL (v := v) hv hc
                have HSK := Lib.hid fun v hv hc => HPI.out.skip (v := v) hv hc
                have hsm2 := HPI.out.pm.small
                have hbt2 := HPI.out.pm.bits
                generalize hx : (bitsOf m1).getD j 0 = x at *
                replace HDR := Lib.hid (HDR.out x rfl); replace HSK := Lib.hid (HSK.out x rfl)
                obtain ⟨hand, hcnt⟩ := and_count HM.out hn16 hbt2 hxn
                have hmx16 := (HM.out.2 x hxn).1
                have cm : wr.cell? ⟨b, x, none⟩ = some (.int .u32 ((M.getD x 0 : Nat) : Int)) := by rw [HW.out.cellAt x (by omega)]; exact mks_get M x (by rw [HM.out.1]; exact hxn)
                rw [← hcnt] at HDR HSK
                clear hcnt hbt2 HPI h3 hrd hx
                generalize M.getD x 0 = mx at *
                have hua := u32_and mx m2 (by omega) (by omega)
                generalize mx &&& m2 = am at *
                have CS := Lib.hid fun wx => size_any am hand wx
                generalize (bitsOf am).length = cn at *
                go_wp2_with fail
                refine (CS.out _).mono ?_
                rintro e w6 ⟨rfl, hb⟩
                have hs6 := hb.size
                replace HB := Lib.hid (HB.out.tr hb); replace HO := Lib.hid (ownsRow_keep HO.out hb); replace HW := Lib.hid (ownsRow_keep HW.out hb); replace HLI := Lib.hid (HLI.out.keep hb)
                replace hhi := Nat.le_trans hhi hs6
                clear hb CS hs6 cm hua hand cq
                by_cases hcn : cn < k
                · obtain ⟨-, HD9⟩ := HDR.out hcn
                  replace HD9 := Lib.hid HD9
                  have CM := Lib.hid fun wx => maskOf_any x (by omega) wx
                  have hun := u32_andNot m2 (2 ^ x) (by omega) (by have := two_pow_lt16 (v := x) (by omega); omega)
                  generalize 2 ^ x = px at *
                  generalize natAndNot m2 px = nm at *
                  clear HDR HSK
                  go_wp2_with fail
                  refine (CM.out _).mono ?_
                  rintro e w7 ⟨rfl, hw7⟩
                  subst hw7
                  go_wp2_with fail
                  go_roundw
                  case rel => exact ⟨j + 1, nm, true, by omega, by go_num, rfl, rfl, hhi, HD9, HLI, HO, HW, HB⟩
                  case measure => simp [intOf]; omega
                · have HD9 := Lib.hid (HSK.out (by omega))
                  clear HDR HSK
                  go_wp2_with fail
                  go_roundw
                  case rel => exact ⟨j + 1, m2, c2, by omega, by go_num, rfl, rfl, hhi, HD9, HLI, HO, HW, HB⟩
                  case measure => simp [intOf]; omega
              · obtain rfl : j = ll := by omega
                have hpi := HPI.out
                rw [← HLL.out, qs_length] at hpi
                have HPM := Lib.hid hpi.pm
                have HGD := Lib.hid fun h => hpi.good h
                have HLE := Lib.hid (HGO.out m2 c2 hpi)
                have HB2 : Hid (bitsV (.int .u32 (m2 : Int)) = (bitsOf m2).length) := Lib.hid (by simp [bitsV])
                clear hpi HPI HLI
                go_wp2_with fail
                go_roundw
                case rel => exact ⟨m2, c2, rfl, rfl, HPM, HGD, HO, HW, HB⟩
                case measure =>
                  rw [HB1.out, HB2.out]
                  have h1 := HLE.out
                  cases c2
                  · show 2 * (bitsOf m2).length + 0 < 2 * (bitsOf m1).length + 1; omega
                  · have := h1.2 rfl
                    show 2 * (bitsOf m2).length + 1 < 2 * (bitsOf m1).length + 1; omega

set_option maxRecDepth 100000 in
set_option maxHeartbeats 16000000 in
theorem specCoresOf_any (w : World) (va : Value) (g : GraphD) (h : RdGraph w va g) : Calls Tryd.prog 30 #[va] w (RetI w (coresOf g)) := by
  have HRG := Lib.hid h
  obtain ⟨p, c, rfl, hr, hc, hmx⟩ := h.form
  clear h hr
  have HNO := Lib.hid (coresOf_no (g := g)); have HYES := Lib.hid (coresOf_is (g := g))
  have HIR := Lib.hid fun ho => nearP_irr (g := g) ho
  have HCN := Lib.hid fun ho B v => cntB_near (g := g) ho B v
  have HNA := Lib.hid fun ho v j hj => near_at (g := g) (v := v) (j := j) ho hj
  generalize coresOf g = R at *
  obtain ⟨m, ys⟩ := g
  simp only at hc HNO HYES HIR HCN HNA ⊢
  have HB : Hid (Below w.heap.size w ((w.alloc (.cells #[.int .i64 m, .slice p ys.length c] 30)).alloc (.cells #[] 3))) := Lib.hid (by go_grown)
  have X := Lib.hid (box_alloc (heap_alloc_new w (.cells #[.int .i64 m, .slice p ys.length c] 30)) (.cells #[] 3))
  have HV := Lib.hid fun wx (hb : Below w.heap.size w wx) => specGraphValid_any wx _ _ (HRG.out.keep hb)
  cases hok : graphOk (m, ys)
  · rw [hok] at HV
    rw [HNO.out hok]
    generalize hl : ys.length = l at *
    clear hl
    have k0 := box_cell X.out 0 _ rfl; have k1 := box_cell X.out 1 _ rfl
    go_enter Tryd.func30, Tryd.ntmps30
    go_wp2_with fail
    refine (HV.out _ HB.out).mono ?_
    rintro e w1 ⟨rfl, hb⟩
    replace HB := Lib.hid (HB.out.tr hb); clear hb k0 k1
    go_wp2_with fail
    go_ret
    exact ⟨_, rfl, Ow.nil _ _ _ _ _ _, HB.out⟩
  · rw [hok] at HV
    have hgo := graphOk_yes hok
    have hm := hgo.1
    simp only at hm
    replace HYES := Lib.hid (HYES.out hok)
    obtain ⟨n, rfl⟩ := Int.eq_ofNat_of_zero_le hm.1
    have HF := Lib.hid fun v => HIR.out hgo v
    simp only [Int.toNat_natCast] at HYES HCN HNA
    have hn16 : n ≤ 16 := by omega
    have HNL : Hid (∃ NL : Nat → List Int, (∀ wx (v : Nat), Below w.heap.size w wx → Calls Tryd.prog 56 #[.agg #[.int .i64 n, .slice p ys.length c], .int .i64 v] wx (RetI wx (NL v))) ∧ (∀ v, (NL v).length ≤ 16) ∧ (∀ v j, j < (NL v).length → ∃ u : Nat, (NL v).getD j 0 = (u : Int) ∧ u < n) ∧ ∀ B v, cntB B (NL v) = cntN (nearP ys) (fun u => B.getD u false) n v) :=
      Lib.hid ⟨fun v => nearOf ((n : Int), ys) (v : Int), fun wx v hb => specNearOf_any wx _ _ _ (HRG.out.keep hb), fun v => nearOf_length _ _, fun v j hj => HNA.out hok v j hj, fun B v => HCN.out hok B v⟩
    clear hgo hok HNO HIR HCN HNA hm
    generalize nearP ys = f at *
    generalize hl : ys.length = l at *
    clear hl
    obtain ⟨NL, hn1, hn2, hn3, hn4⟩ := HNL.out
    have CN := Lib.hid hn1; have HN2 := Lib.hid hn2; have HN3 := Lib.hid hn3; have HN4 := Lib.hid hn4
    clear hn1 hn2 hn3 hn4 HNL
    have CF := Lib.hid fun wx => l8Fill_any wx n 0 (by omega)
    have HC0 : Hid (CoreTo f n 0 (List.replicate n 0)) := Lib.hid CoreTo.start
    generalize List.replicate n (0 : Int) = C0 at *
    obtain ⟨i0, hi, hz0, hz1, hz2⟩ := info_parts infoBool
    have Hi := Lib.hid hi; have Hz0 := Lib.hid hz0; have Hz1 := Lib.hid hz1; have Hz2 := Lib.hid hz2; clear hi hz0 hz1 hz2
    have k0 := box_cell X.out 0 _ rfl; have k1 := box_cell X.out 1 _ rfl
    go_enter Tryd.func30, Tryd.ntmps30
    go_wp2_with fail
    refine (HV.out _ HB.out).mono ?_
    rintro e w1 ⟨rfl, hb⟩
    replace HB := Lib.hid (HB.out.tr hb); replace X := Lib.hid (box_keep X.out hb); clear hb HV k0 k1
    have k0 := box_cell X.out 0 _ rfl; have k1 := box_cell X.out 1 _ rfl
    go_wp2_with fail
    refine (CF.out _).mono ?_
    rintro e w2 ⟨vo, rfl, ho, hb⟩
    have hw1 := HB.out.size
    have hx1 := box_lt X.out
    replace HB := Lib.hid (HB.out.tr hb); replace X := Lib.hid (box_keep X.out hb)
    have HO := Lib.hid ho
    clear hb ho CF k0 k1
    have k0 := box_cell X.out 0 _ rfl; have k1 := box_cell X.out 1 _ rfl
    by_cases hn0 : n = 0
    · subst hn0
      have hR0 : R = [] := List.length_eq_zero_iff.1 HYES.out.len
      obtain ⟨a3, c3, rfl, -, -⟩ := Rd.form (Rd.of_own HO.out)
      have HO9 := Lib.hid ((Ow.of_row HO.out).mono hw1 (Nat.le_refl _))
      have hC0 : C0 = [] := List.length_eq_zero_iff.1 HC0.out.len
      subst hR0
      subst hC0
      go_wp2_with fail
      refine wp_loop_rounds 1 ?_
      rw [rounds_succ]
      go_wp2_with fail
      go_ret
      exact ⟨_, rfl, HO9.out, HB.out⟩
    obtain ⟨b9, c9, rfl, hb9, hb9l, -, -⟩ := own_form HO.out (by omega)
    replace HO := Lib.hid (own_self HO.out)
    have hwb9 : w.heap.size < b9 := by omega
    clear hb9 hb9l hw1 hx1
    go_wp2_with fail
    go_loopw [4] (fun kv wr => ∃ (k q : Nat) (C : List Int), Hid (k = q + 1) ∧ k ≤ n ∧ kv = .int .i64 (k : Int) ∧ Hid (CoreTo f n q C) ∧ Hid (wr.ownsRow b9 3 1 (.slice (some ⟨b9, 0, none⟩) n c9) n (ints C)) ∧ Hid (Below w.heap.size w wr) ∧ Hid (wr.heap[w.heap.size]? = some (.cells #[.int .i64 n, .slice p l c] 30 (0, 0)))) (fun kv _ => n - (intOf kv).toNat)
    case atStart => exact ⟨1, 0, C0, Lib.hid rfl, by omega, rfl, HC0, HO, HB, X⟩
    case round =>
      clear HC0 HO HB X k0 k1
      obtain ⟨k, q, C, HKQ, hkn, rfl, HC, HO, HB, X⟩ := hrel
      have HCL := Lib.hid HC.out.len
      have k0 := box_cell X.out 0 _ rfl; have k1 := box_cell X.out 1 _ rfl
      by_cases hk : k < n
      · have hbo := (HO.out.lt _ rfl).2
        simp only at hbo
        go_wp2_with (at_make; refine wpList_make_full _ rfl _ _ 71 rfl wr.heap.size 4 i0 (.bool false) 1 Tryd.underlying71 Hi.out Hz0.out Hz1.out _ _ _ _ n rfl rfl rfl rfl (by rw [Hz2.out]; omega) (by unfold maxLen; omega) (Nat.le_refl _) ?_)
        intro w4 hown hgrow
        have hb4 : Below wr.heap.size wr w4 := (Below.refl _ _).grown hgrow (Nat.le_refl _) (by intro k hk; cases hk)
        have HI : Hid (w4.ownsRow wr.heap.size 4 1 (.slice (some ⟨wr.heap.size, 0, none⟩) n n) n (bls (List.replicate n false))) := Lib.hid (by
          have h := hown
          rw [toList_madeCells_one] at h
          rw [show bls (List.replicate n false) = List.replicate n (.bool false) by simp [bls]]
          exact h)
        replace HB := Lib.hid (HB.out.tr hb4); replace X := Lib.hid (box_keep X.out hb4); replace HO := Lib.hid (ownsRow_keep HO.out hb4)
        have HBL : Hid ((List.replicate n false).length = n ∧ ∀ u, u < 0 → (List.replicate n false).getD u false = true) := Lib.hid ⟨by simp, fun u hu => by omega⟩
        clear hown hgrow hb4 k0 k1
        generalize List.replicate n false = B0 at *
        generalize wr.heap.size = bi at *
        go_wp2_with fail
        go_loopw [6] (fun i wv => ∃ (t : Nat) (B : List Bool), t ≤ n ∧ i = .int .i64 t ∧ Hid (B.length = n ∧ ∀ u, u < t → B.getD u false = true) ∧ Hid (wv.ownsRow bi 4 1 (.slice (some ⟨bi, 0, none⟩) n n) n (bls B)) ∧ Hid (wv.ownsRow b9 3 1 (.slice (some ⟨b9, 0, none⟩) n c9) n (ints C)) ∧ Hid (Below w.heap.size w wv) ∧ Hid (wv.heap[w.heap.size]? = some (.cells #[.int .i64 n, .slice p l c] 30 (0, 0)))) (fun i _ => n - (intOf i).toNat)
        case atStart => exact ⟨0, B0, Nat.zero_le _, rfl, HBL, HI, HO, HB, X⟩
        case round =>
          clear HBL HI HO HB X
          obtain ⟨t, B, ht, rfl, HBL, HI, HO, HB, X⟩ := hrel
          have k0 := box_cell X.out 0 _ rfl; have k1 := box_cell X.out 1 _ rfl
          by_cases htn : t < n
          · have hbl := HBL.out.1
            have cj : wr.cell? ⟨bi, t, none⟩ = some (.bool (B.getD t false)) := by rw [HI.out.cellAt t (by omega)]; exact bls_get B t (by omega)
            have fj := HI.out.frozenAt t
            have hst := HI.out.stored t (.bool true)
            rw [bls_set] at hst
            have hc4 := Chg.of_grown hst.2
            have hxl := box_lt X.out
            have HI9 := Lib.hid hst.1
            have HO9 := Lib.hid (own_side HO.out hc4 (by omega))
            have HB9 := Lib.hid (hc4.below HB.out (by omega))
            have X9 := Lib.hid ((hc4.block _ hxl (.inl (by omega))).trans X.out)
            have HL9 : Hid ((B.set t true).length = n ∧ ∀ u, u < t + 1 → (B.set t true).getD u false = true) := Lib.hid ⟨by simpa using hbl, fun u hu => by
              by_cases e : u = t
              · subst e; simp [List.getD_eq_getElem?_getD, hbl, htn]
              · have := HBL.out.2 u (by omega)
                rw [List.getD_eq_getElem?_getD] at this ⊢
                rwa [List.getElem?_set_ne fun e' => e e'.symm]⟩
            clear hst hc4 hxl HI HO HB X HBL hbl
            generalize B.getD t false = lj at *
            go_wp2_with fail
            go_roundw
            case rel => exact ⟨t + 1, _, by omega, by go_num, HL9, HI9, HO9, HB9, X9⟩
            case measure => simp [intOf]; omega
          · obtain rfl : t = n := by omega
            have HP : Hid (PeelB f t k B) := Lib.hid (PeelB.of_all HBL.out.1 HBL.out.2)
            clear HBL
            go_wp2_with fail
            go_loopw [7] (fun cv wv => ∃ (ch : Bool) (B : List Bool), cv = .bool ch ∧ Hid (PeelB f t k B) ∧ Hid (ch = false → GoodTo f t k t B) ∧ Hid (wv.ownsRow bi 4 1 (.slice (some ⟨bi, 0, none⟩) t t) t (bls B)) ∧ Hid (wv.ownsRow b9 3 1 (.slice (some ⟨b9, 0, none⟩) t c9) t (ints C)) ∧ Hid (Below w.heap.size w wv) ∧ Hid (wv.heap[w.heap.size]? = some (.cells #[.int .i64 t, .slice p l c] 30 (0, 0)))) (fun cv wv => 2 * trues (rowB wv bi t) + boolN cv)
            case atStart => exact ⟨true, B, rfl, HP, Lib.hid fun h => (by cases h), HI, HO, HB, X⟩
            case round =>
              clear HP HI HO HB X k0 k1
              obtain ⟨ch, B, rfl, HP, HG, HI, HO, HB, X⟩ := hrel
              have k0 := box_cell X.out 0 _ rfl; have k1 := box_cell X.out 1 _ rfl
              have HR0 := Lib.hid (rowB_eq HI.out HP.out.len)
              cases ch
              · have HGD := Lib.hid (HG.out rfl)
                have HCI := Lib.hid (CoreIn.zero HC.out)
                clear HG
                go_wp2_with fail
                go_loopw [12] (fun i wv => ∃ (v : Nat) (C1 : List Int), v ≤ t ∧ i = .int .i64 v ∧ Hid (CoreIn f t q (fun u => u < v) C1) ∧ Hid (wv.ownsRow bi 4 1 (.slice (some ⟨bi, 0, none⟩) t t) t (bls B)) ∧ Hid (wv.ownsRow b9 3 1 (.slice (some ⟨b9, 0, none⟩) t c9) t (ints C1)) ∧ Hid (Below w.heap.size w wv) ∧ Hid (wv.heap[w.heap.size]? = some (.cells #[.int .i64 t, .slice p l c] 30 (0, 0)))) (fun i _ => t - (intOf i).toNat)
                case atStart => exact ⟨0, C, Nat.zero_le _, rfl, HCI, HI, HO, HB, X⟩
                case round =>
                  clear HCI HI HO HB X k0 k1 HC HCL
                  obtain ⟨v, C1, hv, rfl, HCI, HI, HO, HB, X⟩ := hrel
                  have k0 := box_cell X.out 0 _ rfl; have k1 := box_cell X.out 1 _ rfl
                  by_cases hvt : v < t
                  · have hbl := HP.out.len
                    have cb : wr.cell? ⟨bi, v, none⟩ = some (.bool (B.getD v false)) := by rw [HI.out.cellAt v (by omega)]; exact bls_get B v (by omega)
                    cases hbv : B.getD v false
                    · have HN := Lib.hid (HCI.out.out_ hvt (by rw [← HKQ.out]; exact HP.out) hbv)
                      rw [hbv] at cb
                      clear hbv HCI hbl
                      go_wp2_with fail
                      go_roundw
                      case rel => exact ⟨v + 1, _, by omega, by go_num, HN, HI, HO, HB, X⟩
                      case measure => simp [intOf]; omega
                    · have HN := Lib.hid (HCI.out.in_ hvt (by rw [← HKQ.out]; exact HP.out) (by rw [← HKQ.out]; exact HGD.out) hbv)
                      rw [show ((q : Int) + 1) = (k : Int) by have := HKQ.out; omega] at HN
                      rw [hbv] at cb
                      have hcl := HCI.out.len
                      have cj : wr.cell? ⟨b9, v, none⟩ = some (.int .i64 (C1.getD v 0)) := by rw [HO.out.cellAt v (by omega)]; exact ints_get C1 v (by omega)
                      have fj := HO.out.frozenAt v
                      have hst := HO.out.stored v (.int .i64 (k : Int))
                      rw [ints_set] at hst
                      have hc4 := Chg.of_grown hst.2
                      have hxl := box_lt X.out
                      have HO9 := Lib.hid hst.1
                      have HI9 := Lib.hid (own_side HI.out hc4 (by omega))
                      have HB9 := Lib.hid (hc4.below HB.out (by omega))
                      have X9 := Lib.hid ((hc4.block _ hxl (.inl (by omega))).trans X.out)
                      clear hst hc4 hxl HI HO HB X hbv HCI hbl hcl
                      generalize C1.getD v 0 = lj at *
                      go_wp2_with fail
                      go_roundw
                      case rel => exact ⟨v + 1, _, by omega, by go_num, HN, HI9, HO9, HB9, X9⟩
                      case measure => simp [intOf]; omega
                  · obtain rfl : v = t := by omega
                    have HN := Lib.hid HCI.out.all_
                    rw [← HKQ.out] at HN
                    clear HCI
                    go_wp2_with fail
                    go_roundw
                    case rel => exact ⟨k + 1, k, C1, Lib.hid rfl, by omega, by go_num, HN, HO, HB, X⟩
                    case measure => simp [intOf]; omega
              · have HTL : Hid (∃ z, trues B = z) := Lib.hid ⟨_, rfl⟩
                obtain ⟨z, hz⟩ := HTL.out
                have HZ := Lib.hid hz; clear hz HTL HG
                go_wp2_with fail
                go_loopw [7, 8] (fun cv i wv => ∃ (v : Nat) (c2 : Bool) (B1 : List Bool), v ≤ t ∧ i = .int .i64 v ∧ cv = .bool c2 ∧ Hid (PeelB f t k B1) ∧ Hid (trues B1 ≤ z ∧ (c2 = true → trues B1 < z)) ∧ Hid (c2 = false → GoodTo f t k v B1) ∧ Hid (wv.ownsRow bi 4 1 (.slice (some ⟨bi, 0, none⟩) t t) t (bls B1)) ∧ Hid (wv.ownsRow b9 3 1 (.slice (some ⟨b9, 0, none⟩) t c9) t (ints C)) ∧ Hid (Below w.heap.size w wv) ∧ Hid (wv.heap[w.heap.size]? = some (.cells #[.int .i64 t, .slice p l c] 30 (0, 0)))) (fun _ i _ => t - (intOf i).toNat)
                case atStart => exact ⟨0, false, B, Nat.zero_le _, rfl, rfl, HP, Lib.hid ⟨by rw [HZ.out]; exact Nat.le_refl _, fun h => (by cases h)⟩, Lib.hid fun _ u hu => (by omega), HI, HO, HB, X⟩
                case round =>
                  clear HP HI HO HB X k0 k1
                  obtain ⟨v, c2, B1, hv, rfl, rfl, HP, HTT, HG, HI, HO, HB, X⟩ := hrel
                  have k0 := box_cell X.out 0 _ rfl; have k1 := box_cell X.out 1 _ rfl
                  by_cases hvt : v < t
                  · have CC := Lib.hid (CN.out wr v HB.out)
                    have h16 := HN2.out v
                    have HUS := Lib.hid fun j hj => HN3.out v j hj
                    have HCB := Lib.hid (HN4.out B1 v)
                    generalize NL v = L at *
                    have hbi := (HI.out.lt _ rfl).2
                    have hb9l := (HO.out.lt _ rfl).2
                    simp only at hbi hb9l
                    go_wp2_with fail
                    refine CC.out.mono ?_
                    rintro e w5 ⟨sl, rfl, hsl, hb⟩
                    obtain ⟨a5, c5, rfl, hc5, hm5⟩ := Rd.form hsl.rd
                    have hlo5' := hb.size
                    replace HB := Lib.hid (HB.out.tr hb); replace HO := Lib.hid (ownsRow_keep HO.out hb); replace HI := Lib.hid (ownsRow_keep HI.out hb); replace X := Lib.hid (box_keep X.out hb)
                    generalize wr.heap.size = lo5 at hsl hlo5' hbi hb9l
                    generalize hh5 : w5.heap.size = hi5 at hsl hlo5'
                    have HLI := Lib.hid hsl
                    have HC2 : Hid (0 = cntB B1 (L.take 0)) := Lib.hid (by simp [cntB])
                    clear hsl hb CC hh5 k0 k1
                    generalize hll : L.length = ll at *
                    have HLL := Lib.hid hll; clear hll
                    go_wp2_with fail
                    go_loopw [9, 11] (fun nv i wv => ∃ (j cn : Nat), j ≤ ll ∧ cn ≤ j ∧ i = .int .i64 j ∧ nv = .int .i64 cn ∧ Hid (cn = cntB B1 (L.take j)) ∧ Hid (Ow lo5 hi5 wv 3 1 (.slice a5 ll c5) ll (ints L)) ∧ Hid (wv.ownsRow bi 4 1 (.slice (some ⟨bi, 0, none⟩) t t) t (bls B1)) ∧ Hid (wv.ownsRow b9 3 1 (.slice (some ⟨b9, 0, none⟩) t c9) t (ints C)) ∧ Hid (Below w.heap.size w wv) ∧ Hid (wv.heap[w.heap.size]? = some (.cells #[.int .i64 t, .slice p l c] 30 (0, 0)))) (fun _ i _ => ll - (intOf i).toNat)
                    case atStart => exact ⟨0, 0, Nat.zero_le _, Nat.zero_le _, rfl, rfl, HC2, HLI, HI, HO, HB, X⟩
                    case round =>
                      clear HC2 HLI HI HO HB X
                      obtain ⟨j, cn, hj, hcj, rfl, rfl, HC2, HLI, HI, HO, HB, X⟩ := hrel
                      by_cases hjl : j < ll
                      · have hrd : Rd wr 1 (.slice a5 L.length c5) L.length (ints L) := by rw [HLL.out]; exact HLI.out.rd
                        obtain ⟨a', c', hva, -, -, h3⟩ := hrd.int
                        simp only [Value.slice.injEq, true_and] at hva
                        obtain ⟨rfl, rfl⟩ := hva
                        obtain ⟨b1, o1, rfl, hb1, cq⟩ := h3.out j (by rw [HLL.out]; exact hjl)
                        obtain ⟨u, hu, hut⟩ := HUS.out j (by exact hjl)
                        have hbl := HP.out.len
                        have cb : wr.cell? ⟨bi, u, none⟩ = some (.bool (B1.getD u false)) := by rw [HI.out.cellAt u (by omega)]; exact bls_get B1 u (by omega)
                        have hy := fun h => cntB_yes B1 L j (by rw [HLL.out]; exact hjl) h
                        have hno := fun h => cntB_no B1 L j (by rw [HLL.out]; exact hjl) h
                        rw [hu] at cq hy hno
                        rw [Int.toNat_natCast] at hy hno
                        clear hu h3 hrd hbl
                        cases hbu : B1.getD u false
                        · have HC9 : Hid (cn = cntB B1 (L.take (j + 1))) := Lib.hid (by rw [hno hbu]; exact HC2.out)
                          rw [hbu] at cb
                          clear hy hno hbu HC2
                          go_wp2_with fail
                          go_roundw
                          case rel => exact ⟨j + 1, cn, by omega, by omega, by go_num, rfl, HC9, HLI, HI, HO, HB, X⟩
                          case measure => simp [intOf]; omega
                        · have HC9 : Hid (cn + 1 = cntB B1 (L.take (j + 1))) := Lib.hid (by rw [hy hbu]; exact congrArg (· + 1) HC2.out)
                          rw [hbu] at cb
                          clear hy hno hbu HC2
                          go_wp2_with fail
                          go_roundw
                          case rel => exact ⟨j + 1, cn + 1, by omega, by omega, by go_num, by go_num, HC9, HLI, HI, HO, HB, X⟩
                          case measure => simp [intOf]; omega
                      · obtain rfl : j = ll := by omega
                        have hcn : cn = cntN f (fun u => B1.getD u false) t v := by rw [← HCB.out, HC2.out, ← HLL.out, List.take_length]
                        have hbl := HP.out.len
                        have cb : wr.cell? ⟨bi, v, none⟩ = some (.bool (B1.getD v false)) := by rw [HI.out.cellAt v (by omega)]; exact bls_get B1 v (by omega)
                        have HDR := Lib.hid fun hc => HP.out.drop hvt hc
                        have HGN := Lib.hid fun h1 h2 => (HG.out h1).next h2
                        rw [← hcn] at HDR HGN
                        clear hcn HC2 HLI HCB HUS HLL
                        cases hbv : B1.getD v false
                        · have HG9 : Hid (c2 = false → GoodTo f t k (v + 1) B1) := Lib.hid fun h => HGN.out h fun h2 => (by rw [hbv] at h2; cases h2)
                          rw [hbv] at cb
                          clear HDR HGN hbv hbl HG
                          go_wp2_with fail
                          go_roundw
                          case rel => exact ⟨v + 1, c2, B1, by omega, by go_num, rfl, HP, HTT, HG9, HI, HO, HB, X⟩
                          case measure => simp [intOf]; omega
                        · rw [hbv] at cb
                          by_cases hck : cn < k
                          · have HP9 := Lib.hid (HDR.out hck)
                            have htr := trues_set B1 v hbv
                            have HT9 : Hid (trues (B1.set v false) ≤ z ∧ (true = true → trues (B1.set v false) < z)) := Lib.hid (by have := HTT.out.1; exact ⟨by omega, fun _ => by omega⟩)
                            have fj := HI.out.frozenAt v
                            have hst := HI.out.stored v (.bool false)
                            rw [bls_set] at hst
                            have hc4 := Chg.of_grown hst.2
                            have hxl := box_lt X.out
                            have hbi9 := (HI.out.lt _ rfl).2
                            have HI9 := Lib.hid hst.1
                            have HO9 := Lib.hid (own_side HO.out hc4 (by omega))
                            have HB9 := Lib.hid (hc4.below HB.out (by omega))
                            have X9 := Lib.hid ((hc4.block _ hxl (.inl (by omega))).trans X.out)
                            clear hst hc4 hxl HI HO HB X HDR HGN hbv hbl HG HTT htr hbi9
                            generalize B1.set v false = B2 at *
                            go_wp2_with fail
                            go_roundw
                            case rel => exact ⟨v + 1, true, B2, by omega, by go_num, rfl, HP9, HT9, Lib.hid fun h => (by cases h), HI9, HO9, HB9, X9⟩
                            case measure => simp [intOf]; omega
                          · have HG9 : Hid (c2 = false → GoodTo f t k (v + 1) B1) := Lib.hid fun h => HGN.out h fun h2 => (by omega)
                            clear HDR HGN hbv hbl HG
                            go_wp2_with fail
                            go_roundw
                            case rel => exact ⟨v + 1, c2, B1, by omega, by go_num, rfl, HP, HTT, HG9, HI, HO, HB, X⟩
                            case measure => simp [intOf]; omega
                  · obtain rfl : v = t := by omega
                    have HR1 := Lib.hid (rowB_eq HI.out HP.out.len)
                    go_wp2_with fail
                    go_roundw
                    case rel => exact ⟨c2, B1, rfl, HP, HG, HI, HO, HB, X⟩
                    case measure =>
                      rw [HR1.out, HR0.out, HZ.out]
                      have h1 := HTT.out
                      cases c2
                      · show 2 * trues B1 + 0 < 2 * z + 1; omega
                      · have := h1.2 rfl
                        show 2 * trues B1 + 1 < 2 * z + 1; omega
      · have hu := (HC.out.end_ (by have := HKQ.out; omega) HF.out).unique HYES.out
        have HO9 := Lib.hid ((Ow.of_row HO.out).mono (show w.heap.size ≤ b9 by omega) (Nat.le_refl _))
        subst hu
        go_wp2_with fail
        go_ret
        exact ⟨_, rfl, by rw [HCL.out]; exact HO9.out, HB.out⟩
end Go.Proofs.YtobhekkgbccoiaaDoor
