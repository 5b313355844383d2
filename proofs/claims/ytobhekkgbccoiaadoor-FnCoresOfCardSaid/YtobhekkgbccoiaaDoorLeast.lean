/-
  The least vertex that can be reached: the program's function and the reference's.
-/
import Derived.Test.YtobhekkgbccoiaaDoorHops
import Derived.Test.YtobhekkgbccoiaaDoorSums
namespace Go.Proofs.YtobhekkgbccoiaaDoor
open Go.RowKit
set_option linter.unusedVariables false

/-! The law. -/
def symT (ys : List Tri) : List Tri := ys ++ ys.map fun e => (e.2.1, e.1, e.2.2)
theorem near_ends {g : GraphD} (hok : GraphOk g) : ∀ e ∈ symT g.2, ∃ a b : Nat, e.1 = (a : Int) ∧ e.2.1 = (b : Int) ∧ a < g.1.toNat ∧ b < g.1.toNat ∧ nearP g.2 a b = true := fun e he => by
  unfold symT at he
  rw [List.mem_append] at he
  rcases he with he | he
  · obtain ⟨a, b, h1, h2, h3, h4, h5⟩ := next_ends hok e he
    exact ⟨a, b, h1, h2, h3, h4, by simp [nearP, h5]⟩
  · obtain ⟨e', he', rfl⟩ := List.mem_map.1 he
    obtain ⟨a, b, h1, h2, h3, h4, h5⟩ := next_ends hok e' he'
    refine ⟨b, a, h2, h1, h4, h3, ?_⟩
    simp only [nearP, Bool.or_eq_true]
    right
    simp only [prevP, List.any_eq_true, Bool.and_eq_true, decide_eq_true_eq]
    exact ⟨e', he', h2, h1⟩
theorem near_edge {g : GraphD} : ∀ u v, nearP g.2 u v = true → ∃ e ∈ symT g.2, e.1 = (u : Int) ∧ e.2.1 = (v : Int) := fun u v h => by
  unfold symT
  simp only [nearP, Bool.or_eq_true] at h
  rcases h with h | h
  · obtain ⟨e, he, h1, h2⟩ := next_edge u v h
    exact ⟨e, List.mem_append_left _ he, h1, h2⟩
  · simp only [prevP, List.any_eq_true, Bool.and_eq_true, decide_eq_true_eq] at h
    obtain ⟨e, he, h1, h2⟩ := h
    exact ⟨(e.2.1, e.1, e.2.2), List.mem_append_right _ (List.mem_map.2 ⟨e, he, rfl⟩), h1, h2⟩
theorem near_in {g : GraphD} (hok : GraphOk g) : ∀ u v, nearP g.2 u v = true → u < g.1.toNat ∧ v < g.1.toNat := fun u v h => by
  obtain ⟨e, he, h1, h2⟩ := near_edge u v h
  obtain ⟨a, b, e1, e2, e3, e4, -⟩ := near_ends hok e he
  omega
def leastAt (ys : List Tri) (n v : Nat) : Nat := ((List.range n).find? fun u => decide (0 ≤ (hopsTo (symT ys) ((List.replicate n (-1)).set v 0) n).getD u 0)).getD 0
def leastIn (g : GraphD) : List Int := if graphOk g = true then (List.range g.1.toNat).map fun v => ((leastAt g.2 g.1.toNat v : Nat) : Int) else []
theorem leastIn_length (g : GraphD) : (leastIn g).length ≤ 16 := by
  unfold leastIn
  split
  · rename_i h
    have := (graphOk_yes h).1
    simp; omega
  · simp
theorem leastIn_no {g : GraphD} (h : graphOk g = false) : leastIn g = [] := by unfold leastIn; rw [h]; rfl
theorem leastIn_is {g : GraphD} (h : graphOk g = true) : IsLeast (nearP g.2) g.1.toNat (leastIn g) := by
  have hgo := graphOk_yes h
  refine LeastTo.least (fun u v => nearP_symm g.2 u v) (near_in hgo) ⟨by unfold leastIn; rw [if_pos h]; simp, fun v hv => .inr ?_⟩
  have hd := hops_dist (f := nearP g.2) hv (near_ends hgo) near_edge
  have hc := hd.con_iff
  have e : (leastIn g).getD v 0 = ((leastAt g.2 g.1.toNat v : Nat) : Int) := by unfold leastIn; rw [if_pos h]; simp [hv]
  cases hf : (List.range g.1.toNat).find? fun u => decide (0 ≤ (hopsTo (symT g.2) ((List.replicate g.1.toNat (-1)).set v 0) g.1.toNat).getD u 0) with
  | none =>
    rw [List.find?_eq_none] at hf
    have := hf v (by simpa using hv)
    exact absurd (decide_eq_true ((hc v hv).2 (Con.refl _ v))) this
  | some u =>
    rw [List.find?_eq_some_iff_append] at hf
    obtain ⟨h1, pr, po, h2, h3⟩ := hf
    have hla : leastAt g.2 g.1.toNat v = u := by
      unfold leastAt
      have : ((List.range g.1.toNat).find? fun u => decide (0 ≤ (hopsTo (symT g.2) ((List.replicate g.1.toNat (-1)).set v 0) g.1.toNat).getD u 0)) = some u := by
        rw [List.find?_eq_some_iff_append]; exact ⟨h1, pr, po, h2, h3⟩
      rw [this]; rfl
    have hmem : u ∈ List.range g.1.toNat := by rw [h2]; simp
    have hun : u < g.1.toNat := by simpa using hmem
    have hpw := List.pairwise_lt_range (n := g.1.toNat)
    have hlow : ∀ u', u' < u → u' ∈ pr := fun u' hu' => by
      have hm : u' ∈ List.range g.1.toNat := by simp; omega
      rw [h2, List.mem_append, List.mem_cons] at hm
      rw [h2, List.pairwise_append, List.pairwise_cons] at hpw
      rcases hm with hm | rfl | hm
      · exact hm
      · omega
      · have := hpw.2.1.1 u' hm; omega
    refine ⟨u, hun, by rw [e, hla], (hc u hun).1 (of_decide_eq_true h1), fun u' hu' hcon => ?_⟩
    have h4 := h3 u' (hlow u' hu')
    have h5 := (hc u' (by omega)).2 hcon
    rw [decide_eq_true h5] at h4; cases h4

set_option maxRecDepth 100000 in
set_option maxHeartbeats 8000000 in
theorem implLeastInPart_any (w : World) (va : Value) (g : GraphD) (h : RdGraph w va g) (HT : TabW w) : Calls Tryd.prog 20 #[va] w (RetI w (leastIn g)) := by
  have HTB := Lib.hid HT; clear HT
  have HRG := Lib.hid h
  obtain ⟨p, c, rfl, hr, hc, hmx⟩ := h.form
  clear h hr
  have HNO := Lib.hid (leastIn_no (g := g)); have HYES := Lib.hid (leastIn_is (g := g))
  have HNI := Lib.hid fun ho => near_in (g := g) ho
  have HSY := Lib.hid (nearP_symm g.2)
  generalize leastIn g = R at *
  obtain ⟨m, ys⟩ := g
  simp only at hc HNO HYES HNI HSY ⊢
  have HB : Hid (Below w.heap.size w (w.alloc (.cells #[.int .i64 m, .slice p ys.length c] 30))) := Lib.hid (by go_grown)
  have X := Lib.hid (heap_alloc_new w (.cells #[.int .i64 m, .slice p ys.length c] 30))
  have HV := Lib.hid fun wx (hb : Below w.heap.size w wx) => implGraphValid_any wx _ _ (HRG.out.keep hb)
  cases hok : graphOk (m, ys)
  · rw [hok] at HV
    rw [HNO.out hok]
    go_enter Tryd.func20, Tryd.ntmps20
    go_wp2_with fail
    refine (HV.out _ HB.out).mono ?_
    rintro e w1 ⟨rfl, hb⟩
    replace HB := Lib.hid (HB.out.tr hb); clear hb
    go_wp2_with fail
    go_ret
    exact ⟨_, rfl, Ow.nil _ _ _ _ _ _, HB.out⟩
  · rw [hok] at HV
    have hgo := graphOk_yes hok
    have HMS := Lib.hid fun wx (hb : Below w.heap.size w wx) => nearMasks_any wx _ _ (HRG.out.keep hb) hgo
    have hm := hgo.1
    simp only at hm HMS
    replace HYES := Lib.hid (HYES.out hok)
    obtain ⟨n, rfl⟩ := Int.eq_ofNat_of_zero_le hm.1
    have HF := Lib.hid (HNI.out hgo)
    rw [Int.toNat_natCast] at HMS HF HYES
    have hn16 : n ≤ 16 := by omega
    clear hgo hok HNO HNI hm
    generalize nearP ys = f at *
    generalize hl : ys.length = l at *
    clear hl
    have CU := Lib.hid fun wx => unknowns_any wx n (by omega)
    have HST : Hid (LeastTo f n 0 (List.replicate n (-1))) := Lib.hid LeastTo.start
    generalize List.replicate n (-1 : Int) = L0 at *
    have k0 := box_cell X.out 0 _ rfl; have k1 := box_cell X.out 1 _ rfl
    go_enter Tryd.func20, Tryd.ntmps20
    go_wp2_with fail
    refine (HV.out _ HB.out).mono ?_
    rintro e w1 ⟨rfl, hb⟩
    replace HB := Lib.hid (HB.out.tr hb); replace X := Lib.hid (box_keep X.out hb); clear hb HV k0 k1
    have k0 := box_cell X.out 0 _ rfl; have k1 := box_cell X.out 1 _ rfl
    go_wp2_with fail
    refine (HMS.out _ HB.out).mono ?_
    rintro e w3 ⟨b, M, rfl, hbb, ho, hM, hb⟩
    replace HB := Lib.hid (HB.out.tr hb); replace X := Lib.hid (box_keep X.out hb); clear hb k0 k1 HMS
    have HW := Lib.hid ho; have HM := Lib.hid hM; clear ho hM
    have hbl := (HW.out.lt _ rfl).2
    have hwb : w.heap.size ≤ w3.heap.size := HB.out.size
    have k0 := box_cell X.out 0 _ rfl; have k1 := box_cell X.out 1 _ rfl
    go_wp2_with fail
    refine (CU.out _).mono ?_
    rintro e w4 ⟨rfl, ho, hb⟩
    replace HB := Lib.hid (HB.out.tr hb); replace HW := Lib.hid (ownsRow_keep HW.out hb); have HO := Lib.hid ho; clear hb ho k0 k1 CU X
    generalize w3.heap.size = bu at *
    go_wp2_with fail
    go_loopw [18] (fun i wr => ∃ (t : Nat) (L : List Int), t ≤ n ∧ i = .int .i64 t ∧ Hid (LeastTo f n t L) ∧ Hid (wr.ownsRow bu 3 1 (.slice (some ⟨bu, 0, none⟩) n n) n (ints L)) ∧ Hid (wr.ownsRow b 67 1 (.slice (some ⟨b, 0, none⟩) n n) n (mks M)) ∧ Hid (Below w.heap.size w wr)) (fun i _ => n - (intOf i).toNat)
    case atStart => exact ⟨0, L0, Nat.zero_le _, rfl, HST, HO, HW, HB⟩
    case round =>
      clear HST HO HW HB
      obtain ⟨t, L, ht, rfl, HL, HO, HW, HB⟩ := hrel
      have HLL := Lib.hid HL.out.len
      by_cases hlt : t < n
      · have ct : wr.cell? ⟨bu, t, none⟩ = some (.int .i64 (L.getD t 0)) := by rw [HO.out.cellAt t (by omega)]; exact ints_get L t (by rw [HLL.out]; exact hlt)
        by_cases hlv : L.getD t 0 = -1
        · have HNW := Lib.hid (HL.out.new hlt hlv)
          have HLI := Lib.hid HL.out.open
          rw [hlv] at ct
          have CS := Lib.hid (stepsOver_any wr b n t M f HW.out HM.out hn16 hlt HF.out (HTB.out.keep HB.out))
          clear hlv HL
          go_wp2_with fail
          refine CS.out.mono ?_
          rintro e w5 ⟨D, hd, s, rfl, hs, hb⟩
          have hdl := hd.len
          rw [hdl] at hs
          have HD := Lib.hid hd; have HDL := Lib.hid hdl
          obtain ⟨a5, c5, rfl, hc5, hm5⟩ := Rd.form hs.rd
          have hbu := (HO.out.lt _ rfl).2
          replace HB := Lib.hid (HB.out.tr hb); replace HO := Lib.hid (ownsRow_keep HO.out hb); replace HW := Lib.hid (ownsRow_keep HW.out hb)
          have hlo5' := hb.size
          simp only at hbu
          generalize wr.heap.size = lo5 at hs hbu hlo5'
          generalize hh5 : w5.heap.size = hi5 at hs hlo5'
          have HSD := Lib.hid hs
          clear hd hdl hs hb CS hh5 ct
          go_wp2_with fail
          go_loopw [30] (fun i wv => ∃ (j : Nat) (L1 : List Int), j ≤ n ∧ i = .int .i64 j ∧ Hid (LeastIn f n t j L1) ∧ Hid (wv.ownsRow bu 3 1 (.slice (some ⟨bu, 0, none⟩) n n) n (ints L1)) ∧ Hid (wv.ownsRow b 67 1 (.slice (some ⟨b, 0, none⟩) n n) n (mks M)) ∧ Hid (Ow lo5 hi5 wv 3 1 (.slice a5 n c5) n (ints D)) ∧ Hid (Below w.heap.size w wv)) (fun i _ => n - (intOf i).toNat)
          case atStart => exact ⟨0, L, Nat.zero_le _, rfl, HLI, HO, HW, HSD, HB⟩
          case round =>
            clear HLI HO HW HSD HB HLL
            obtain ⟨j, L1, hj, rfl, HLI, HO, HW, HSD, HB⟩ := hrel
            by_cases hjl : j < n
            · have hrd : Rd wr 1 (.slice a5 D.length c5) D.length (ints D) := by rw [HDL.out]; exact HSD.out.rd
              obtain ⟨a', c', hv, -, -, h3⟩ := hrd.int
              simp only [Value.slice.injEq, true_and] at hv
              obtain ⟨rfl, rfl⟩ := hv
              obtain ⟨b1, o1, rfl, hb1, cq⟩ := h3.out j (by rw [HDL.out]; exact hjl)
              have HSTP := Lib.hid (HLI.out.step HSY.out hjl HD.out HNW.out)
              by_cases hdj : D.getD j 0 = -1
              · rw [if_pos hdj] at HSTP
                rw [hdj] at cq
                clear h3 hrd hdj HLI
                go_wp2_with fail
                go_roundw
                case rel => exact ⟨j + 1, L1, by omega, by go_num, HSTP, HO, HW, HSD, HB⟩
                case measure => simp [intOf]; omega
              · rw [if_neg hdj] at HSTP
                have hdj' : (D.getD j 0 == -1) = false := by simpa using hdj
                have hdj2 : (D.getD j 0 != -1) = true := by simpa using hdj
                have hll := HLI.out.len
                have cj : wr.cell? ⟨bu, j, none⟩ = some (.int .i64 (L1.getD j 0)) := by rw [HO.out.cellAt j (by omega)]; exact ints_get L1 j (by omega)
                have fj := HO.out.frozenAt j
                have hst := HO.out.stored j (.int .i64 (t : Int))
                rw [ints_set] at hst
                have hc4 := Chg.of_grown hst.2
                have HO9 := Lib.hid hst.1
                have HW9 := Lib.hid (own_side HW.out hc4 (by omega))
                have HS9 := Lib.hid (HSD.out.chg hc4 (.inl (by omega)))
                have HB9 := Lib.hid (hc4.below HB.out (by omega))
                clear h3 hrd hdj HLI hst hc4 hll HO HW HSD HB
                generalize D.getD j 0 = dj at *
                generalize L1.getD j 0 = lj at *
                go_wp2_with fail
                go_roundw
                case rel => exact ⟨j + 1, _, by omega, by go_num, HSTP, HO9, HW9, HS9, HB9⟩
                case measure => simp [intOf]; omega
            · obtain rfl : j = n := by omega
              have HL9 := Lib.hid (HLI.out.close (Nat.le_refl _))
              go_wp2_with fail
              go_roundw
              case rel => exact ⟨t + 1, L1, by omega, by go_num, HL9, HO, HW, HB⟩
              case measure => simp [intOf]; omega
        · have HL9 := Lib.hid (HL.out.skip HSY.out hlt hlv)
          have hlv' : (L.getD t 0 == -1) = false := by simpa using hlv
          have hlv2 : (L.getD t 0 != -1) = true := by simpa using hlv
          clear hlv HL
          generalize L.getD t 0 = lt at *
          go_wp2_with fail
          go_roundw
          case rel => exact ⟨t + 1, L, by omega, by go_num, HL9, HO, HW, HB⟩
          case measure => simp [intOf]; omega
      · obtain rfl : t = n := by omega
        have hu := (HL.out.least HSY.out HF.out).unique HYES.out
        have HO9 := Lib.hid ((Ow.of_row HO.out).mono (show w.heap.size ≤ bu by omega) (Nat.le_refl _))
        subst hu
        go_wp2_with fail
        go_ret
        exact ⟨_, rfl, by rw [HLL.out]; exact HO9.out, HB.out⟩

def boolN : Value → Nat
  | .bool true => 1
  | _ => 0
def idTo (t : Nat) : List Int := (List.range t).map fun (v : Nat) => (v : Int)
theorem idTo_succ (t : Nat) : idTo (t + 1) = idTo t ++ [(t : Int)] := by simp [idTo, List.range_succ]
theorem idTo_length (t : Nat) : (idTo t).length = t := by simp [idTo]
def fixedE (L : List Int) (e : Tri) : Prop := L.getD e.1.toNat 0 = L.getD e.2.1.toNat 0
theorem LeastSo.least {f : Nat → Nat → Bool} {n : Nat} {L : List Int} {ys : List Tri} (h : LeastSo f n L) (hf : ∀ u v, f u v = true → ∃ e ∈ symT ys, e.1 = (u : Int) ∧ e.2.1 = (v : Int)) (hx : ∀ e ∈ ys, fixedE L e) : IsLeast f n L := by
  refine ⟨h.len, h.low, h.con, fun u v huv => ?_⟩
  obtain ⟨e, he, h1, h2⟩ := hf u v huv
  unfold symT at he
  rw [List.mem_append] at he
  rcases he with he | he
  · have := hx e he
    unfold fixedE at this
    rw [h1, h2] at this; simpa using this
  · obtain ⟨e', he', rfl⟩ := List.mem_map.1 he
    have := hx e' he'
    unfold fixedE at this
    simp only at h1 h2
    rw [h1, h2] at this; simpa using this.symm
theorem set_same {L : List Int} {a : Nat} : L.set a (L.getD a 0) = L := by
  by_cases h : a < L.length
  · rw [show L.getD a 0 = L[a] by simp [h]]; exact List.set_getElem_self h
  · exact List.set_eq_of_length_le (Nat.le_of_not_lt h)
theorem least_total {L : List Int} {n a b : Nat} (hl : L.length = n) (ha : a < n) (hb : b < n) (h0 : ∀ v, v < n → 0 ≤ L.getD v 0) : total ((L.set a (least2 a b L)).set b (least2 a b L)) ≤ total L ∧ (L.getD a 0 ≠ L.getD b 0 → total ((L.set a (least2 a b L)).set b (least2 a b L)) < total L) := by
  have ha0 := h0 a ha; have hb0 := h0 b hb
  have h1 : 0 ≤ least2 a b L ∧ least2 a b L ≤ L.getD a 0 ∧ least2 a b L ≤ L.getD b 0 ∧ (L.getD a 0 ≠ L.getD b 0 → least2 a b L ≠ L.getD a 0 ∨ (least2 a b L = L.getD a 0 ∧ least2 a b L ≠ L.getD b 0)) := by unfold least2; split <;> omega
  generalize least2 a b L = m at *
  obtain ⟨p1, p2, p3, p4⟩ := h1
  have t1 := total_set (L := L) (i := a) (x := m) (by omega) p1 p2
  have e1 : (L.set a m).getD b 0 = m ∧ b = a ∨ (L.set a m).getD b 0 = L.getD b 0 := getD_set_or L a b m
  have t2 := total_set (L := L.set a m) (i := b) (x := m) (by rw [List.length_set]; omega) p1 (by rcases e1 with e | e <;> omega)
  refine ⟨by omega, fun hne => ?_⟩
  rcases p4 hne with q | ⟨q1, q2⟩
  · have := t1.2 q; omega
  · have hba : b ≠ a := fun e => by subst e; exact hne rfl
    rcases e1 with e | e
    · exact absurd e.2 hba
    · have := t2.2 (by omega); omega

set_option maxRecDepth 100000 in
set_option maxHeartbeats 8000000 in
theorem specLeastInPart_any (w : World) (va : Value) (g : GraphD) (h : RdGraph w va g) : Calls Tryd.prog 19 #[va] w (RetI w (leastIn g)) := by
  have HRG := Lib.hid h
  obtain ⟨p, c, rfl, hr, hc, hmx⟩ := h.form
  clear h
  have HNO := Lib.hid (leastIn_no (g := g)); have HYES := Lib.hid (leastIn_is (g := g))
  have HSY := Lib.hid (nearP_symm g.2); have HNE := Lib.hid (near_edge (g := g))
  have HNX : Hid (∀ a b : Nat, (∃ e ∈ g.2, e.1 = (a : Int) ∧ e.2.1 = (b : Int)) → nearP g.2 a b = true) := Lib.hid fun a b ⟨e, he, h1, h2⟩ => by
    simp only [nearP, nextP, Bool.or_eq_true, List.any_eq_true, Bool.and_eq_true, decide_eq_true_eq]
    exact .inl ⟨e, he, h1, h2⟩
  generalize leastIn g = R at *
  obtain ⟨m, ys⟩ := g
  simp only at hr hc HNO HYES HSY HNE HNX ⊢
  have HR : Hid (Rd w 3 (.slice p ys.length c) ys.length (tris ys)) := Lib.hid hr
  clear hr
  have HB : Hid (Below w.heap.size w ((w.alloc (.cells #[.int .i64 m, .slice p ys.length c] 30)).alloc (.cells #[] 3))) := Lib.hid (by go_grown)
  have X := Lib.hid (box_alloc (heap_alloc_new w (.cells #[.int .i64 m, .slice p ys.length c] 30)) (.cells #[] 3))
  have HV := Lib.hid fun wx (hb : Below w.heap.size w wx) => specGraphValid_any wx _ _ (HRG.out.keep hb)
  have HO0 := Lib.hid (World.ownsRow_made (size := 1) (e := 3) (base := w.heap.size + 1) (w.alloc (.cells #[.int .i64 m, .slice p ys.length c] 30)) #[] 0 (by simp) (by decide) rfl)
  simp only [World.size_alloc] at HO0
  cases hok : graphOk (m, ys)
  · rw [hok] at HV
    rw [HNO.out hok]
    generalize hl : ys.length = l at *
    clear hl
    go_enter Tryd.func19, Tryd.ntmps19
    go_wp2_with fail
    generalize ((w.alloc (.cells #[.int .i64 m, .slice p l c] 30)).alloc (.cells #[] 3)) = w0 at *
    refine wp_loop_rounds 1 ?_
    rw [rounds_succ]
    have k0 := box_cell X.out 0 _ rfl; have k1 := box_cell X.out 1 _ rfl
    by_cases h1 : 0 < m
    · go_wp2_with fail
      refine (HV.out _ HB.out).mono ?_
      rintro e w1 ⟨rfl, hb⟩
      replace HB := Lib.hid (HB.out.tr hb); clear hb k0 k1
      go_wp2_with fail
      refine wp_loop_rounds 1 ?_
      rw [rounds_succ]
      go_wp2_with fail
      go_ret
      exact ⟨_, rfl, Ow.nil _ _ _ _ _ _, HB.out⟩
    · go_wp2_with fail
      refine wp_loop_rounds 1 ?_
      rw [rounds_succ]
      go_wp2_with fail
      go_ret
      exact ⟨_, rfl, Ow.nil _ _ _ _ _ _, HB.out⟩
  · rw [hok] at HV
    have hgo := graphOk_yes hok
    have hm := hgo.1
    simp only at hm
    replace HYES := Lib.hid (HYES.out hok)
    obtain ⟨n, rfl⟩ := Int.eq_ofNat_of_zero_le hm.1
    have HED := Lib.hid fun k (hk : k < ys.length) => hgo.edge hk
    simp only [Int.toNat_natCast] at HED HYES
    have hn16 : n ≤ 16 := by omega
    have hl40 := hgo.2.1
    simp only at hl40
    clear hgo hok HNO hm
    have HGM := Lib.hid fun k (hk : k < ys.length) => getD_inQ (d := triZ) hk
    generalize nearP ys = f at *
    have HSO : Hid (LeastSo f n (idTo n)) := Lib.hid LeastSo.start
    generalize hl : ys.length = l at *
    have HL := Lib.hid hl; clear hl
    go_enter Tryd.func19, Tryd.ntmps19
    go_wp2_with fail
    generalize ((w.alloc (.cells #[.int .i64 n, .slice p l c] 30)).alloc (.cells #[] 3)) = w0 at *
    go_loopw [3, 4] (fun r i wr => ∃ t : Nat, t ≤ n ∧ i = .int .i64 t ∧ Hid (wr.ownsRow (w.heap.size + 1) 3 1 r t (ints (idTo t))) ∧ Hid (Below w.heap.size w wr) ∧ Hid (wr.heap[w.heap.size]? = some (.cells #[.int .i64 n, .slice p l c] 30 (0, 0)))) (fun _ i _ => n - (intOf i).toNat)
    case atStart => exact ⟨0, Nat.zero_le _, rfl, HO0, HB, X⟩
    case round =>
      clear HB X HO0
      obtain ⟨t, ht, rfl, HO, HB, X⟩ := hrel
      have k0 := box_cell X.out 0 _ rfl; have k1 := box_cell X.out 1 _ rfl
      by_cases hlt : t < n
      · obtain ⟨a3, c3, rfl, -, -⟩ := Rd.form (Rd.of_own HO.out)
        go_wp2_with fail
        refine (HV.out _ HB.out).mono ?_
        rintro e w1 ⟨rfl, hb⟩
        replace HB := Lib.hid (HB.out.tr hb); replace X := Lib.hid (box_keep X.out hb); replace HO := Lib.hid (ownsRow_keep HO.out hb); clear hb k0 k1
        have HSU := Lib.hid (idTo_succ t)
        generalize idTo t = T at *
        have hxl := box_lt X.out
        go_wp2_with (at_builtin; refine wpList_pushB rfl _ _ 26 3 rfl (.int .i64 0) 1 8 Tryd.underlying26 infoInt rfl (by decide) (by decide) #[.int .i64 t] rfl (by simp [Value.oneCell']) (w.heap.size + 1) _ _ _ HO.out rfl rfl (by omega) (by omega) ?_; intro v' w9 hown1 hbel1 hne1)
        go_roundw
        case rel => exact ⟨t + 1, by omega, by go_num, Lib.hid (by rw [HSU.out, ints_append]; exact hown1), Lib.hid (HB.out.trans (hbel1.mono (by omega))), Lib.hid ((hbel1.block _ (by omega)).trans X.out)⟩
        case measure => simp [intOf]; omega
      · obtain rfl : t = n := by omega
        by_cases ht0 : t = 0
        · subst ht0
          have hR0 : R = [] := List.length_eq_zero_iff.1 HYES.out.len
          obtain ⟨a3, c3, rfl, -, -⟩ := Rd.form (Rd.of_own HO.out)
          have HO9 := Lib.hid ((Ow.of_row HO.out).mono (show w.heap.size ≤ w.heap.size + 1 by omega) (Nat.le_refl _))
          subst hR0
          go_wp2_with fail
          refine wp_loop_rounds 1 ?_
          rw [rounds_succ]
          go_wp2_with fail
          go_ret
          exact ⟨_, rfl, HO9.out, HB.out⟩
        obtain ⟨b9, c9, rfl, hb9, hb9l, -, -⟩ := own_form HO.out (by omega)
        replace HO := Lib.hid (own_self HO.out)
        generalize idTo t = L0 at *
        go_wp2_with fail
        go_loopw [5] (fun q wr => ∃ (ch : Bool) (L : List Int), q = .bool ch ∧ Hid (LeastSo f t L) ∧ Hid (ch = false → ∀ e ∈ ys, fixedE L e) ∧ Hid (wr.ownsRow b9 3 1 (.slice (some ⟨b9, 0, none⟩) t c9) t (ints L)) ∧ Hid (Below w.heap.size w wr) ∧ Hid (wr.heap[w.heap.size]? = some (.cells #[.int .i64 t, .slice p l c] 30 (0, 0)))) (fun q wr => 2 * total (rowI wr b9 t) + boolN q)
        case atStart => exact ⟨true, L0, by simp; omega, HSO, Lib.hid fun h => (by cases h), HO, HB, X⟩
        case round =>
          clear HSO HO HB X k0 k1
          obtain ⟨ch, L, rfl, HSO, HFX, HO, HB, X⟩ := hrel
          have hll := HSO.out.len
          have HR0 := Lib.hid (rowI_eq HO.out hll)
          have HLL := Lib.hid hll; clear hll
          have k0 := box_cell X.out 0 _ rfl; have k1 := box_cell X.out 1 _ rfl
          cases ch
          · have hu := (HSO.out.least HNE.out (HFX.out rfl)).unique HYES.out
            have HO9 := Lib.hid ((Ow.of_row HO.out).mono (show w.heap.size ≤ b9 by omega) (Nat.le_refl _))
            subst hu
            go_wp2_with fail
            go_ret
            exact ⟨_, rfl, by rw [HLL.out]; exact HO9.out, HB.out⟩
          · have HTL : Hid (∃ z, total L = z) := Lib.hid ⟨_, rfl⟩
            obtain ⟨z, hz⟩ := HTL.out
            have HZ := Lib.hid hz; clear hz HTL
            go_wp2_with fail
            go_loopw [5, 6] (fun q i wv => ∃ (k : Nat) (c2 : Bool) (L1 : List Int), k ≤ l ∧ i = .int .i64 k ∧ q = .bool c2 ∧ Hid (LeastSo f t L1) ∧ Hid (total L1 ≤ z ∧ (c2 = true → total L1 < z)) ∧ Hid (c2 = false → ∀ e ∈ ys.take k, fixedE L1 e) ∧ Hid (wv.ownsRow b9 3 1 (.slice (some ⟨b9, 0, none⟩) t c9) t (ints L1)) ∧ Hid (Below w.heap.size w wv) ∧ Hid (wv.heap[w.heap.size]? = some (.cells #[.int .i64 t, .slice p l c] 30 (0, 0)))) (fun _ i _ => l - (intOf i).toNat)
            case atStart => exact ⟨0, false, L, Nat.zero_le _, rfl, rfl, HSO, Lib.hid ⟨by rw [HZ.out]; exact Nat.le_refl _, fun h => (by cases h)⟩, Lib.hid fun _ e he => (by simp at he), HO, HB, X⟩
            case round =>
              clear HSO HO HB X k0 k1 HFX
              obtain ⟨k, c2, L1, hk, rfl, rfl, HSO, HTT, HFX, HO, HB, X⟩ := hrel
              have k0 := box_cell X.out 0 _ rfl; have k1 := box_cell X.out 1 _ rfl
              by_cases hkl : k < l
              · obtain ⟨b1, o1, rfl, hb1, q0, q1, -⟩ := (HR.out.keep HB.out).tri hkl
                obtain ⟨a, b, ha, hb, han, hbn, -⟩ := HED.out k hkl
                have hem := HGM.out k hkl
                have hfab := HNX.out a b ⟨_, hem, ha, hb⟩
                have HS2 := Lib.hid (HSO.out.step HSY.out han hbn hfab)
                have HT2 := Lib.hid (least_total HSO.out.len han hbn fun v hv => (HSO.out.low v hv).1)
                have hll := HSO.out.len
                have HTK : Hid (∀ L : List Int, (∀ e ∈ ys.take k, fixedE L e) → L.getD a 0 = L.getD b 0 → ∀ e ∈ ys.take (k + 1), fixedE L e) := Lib.hid fun L h1 h2 e he => by
                  rw [triTake_snoc ys k (by rw [HL.out]; exact hkl), List.mem_append, List.mem_singleton] at he
                  rcases he with he | rfl
                  · exact h1 e he
                  · unfold fixedE; rw [ha, hb]; exact h2
                rw [ha] at q0; rw [hb] at q1
                have ca : wr.cell? ⟨b9, a, none⟩ = some (.int .i64 (L1.getD a 0)) := by rw [HO.out.cellAt a (by omega)]; exact ints_get L1 a (by omega)
                have cb : wr.cell? ⟨b9, b, none⟩ = some (.int .i64 (L1.getD b 0)) := by rw [HO.out.cellAt b (by omega)]; exact ints_get L1 b (by omega)
                clear ha hb hem hfab hll
                generalize hx : L1.getD a 0 = x at *
                generalize hy : L1.getD b 0 = y at *
                have HX := Lib.hid hx; have HY := Lib.hid hy
                clear hx hy
                go_wp2_with fail
                go_quiet (fail)
                have hbz : Below wr.heap.size wr (wr.drewN nq) := (Below.refl _ _).drewN' _
                generalize wr.drewN nq = wz at *
                have hb9w := (HO.out.lt _ rfl).2
                have za := (hbz.cell (p := ⟨b9, a, none⟩) hb9w).trans ca; have zb := (hbz.cell (p := ⟨b9, b, none⟩) hb9w).trans cb
                replace HO := Lib.hid (ownsRow_keep HO.out hbz); replace HB := Lib.hid (HB.out.tr hbz); replace X := Lib.hid (box_keep X.out hbz)
                replace hb9w := Nat.lt_of_lt_of_le hb9w hbz.size
                have hmm : least2 a b L1 = if y < x then y else x := by unfold least2; rw [HX.out, HY.out]
                rw [hmm] at HS2 HT2
                have HFIX : Hid (x = y → (L1.set a (if y < x then y else x)).set b (if y < x then y else x) = L1) := Lib.hid fun h => by
                  subst h
                  rw [if_neg (Int.lt_irrefl _)]
                  rw [show L1.set a x = L1 from by rw [← HX.out]; exact set_same]
                  rw [← HY.out]; exact set_same
                clear ca cb hbz k0 k1 q0 q1 hmm
                have HCASE : (∃ mm, (if y < x then y else x) = mm ∧ ((x = mm ∧ y = mm) ∨ (x = mm ∧ (y != mm) = true ∧ (y == mm) = false ∧ x ≠ y) ∨ ((x != mm) = true ∧ (x == mm) = false ∧ y = mm ∧ x ≠ y))) := by
                  by_cases h1 : y < x
                  · rw [if_pos h1]; exact ⟨y, rfl, .inr (.inr ⟨by simp; omega, by simp; omega, rfl, by omega⟩)⟩
                  · rw [if_neg h1]
                    by_cases h2 : x = y
                    · exact ⟨x, rfl, .inl ⟨rfl, h2.symm⟩⟩
                    · exact ⟨x, rfl, .inr (.inl ⟨rfl, by simp; omega, by simp; omega, h2⟩)⟩
                obtain ⟨mm, hm1, HC⟩ := HCASE
                rw [hm1] at HS2 HT2 HFIX ⊢
                clear hm1
                have fa := HO.out.frozenAt a
                have hst := HO.out.stored a (.int .i64 mm)
                rw [ints_set] at hst
                have hl2 : (L1.set a mm).length = t := by rw [List.length_set]; exact HSO.out.len
                have zb2 : (wz.setCell ⟨b9, a, none⟩ (.int .i64 mm)).cell? ⟨b9, b, none⟩ = some (.int .i64 ((L1.set a mm).getD b 0)) := by rw [hst.1.cellAt b (by omega)]; exact ints_get (L1.set a mm) b (by omega)
                have fb2 := hst.1.frozenAt b
                have hst2 := hst.1.stored b (.int .i64 mm)
                rw [ints_set] at hst2
                have hc1 := Chg.of_grown hst.2; have hc2 := Chg.of_grown hst2.2
                have HO9 := Lib.hid hst2.1
                have HB9 := Lib.hid (hc2.below (hc1.below HB.out (by omega)) (by omega))
                have X9 := Lib.hid ((hc2.block _ (by have := box_lt X.out; have := hc1.size; omega) (.inl (by omega))).trans ((hc1.block _ (box_lt X.out) (.inl (by omega))).trans X.out))
                clear hst hst2 hc1 hc2 HO HB X hl2
                generalize (L1.set a mm).getD b 0 = y2 at *
                generalize hL2 : (L1.set a mm).set b mm = L2 at *
                clear hL2
                have HNEW : ∀ cN : Bool, (cN = c2 ∧ x = y) ∨ (cN = true ∧ x ≠ y) ∨ (cN = true ∧ c2 = true) → Hid (total L2 ≤ z ∧ (cN = true → total L2 < z)) ∧ Hid (cN = false → ∀ e ∈ ys.take (k + 1), fixedE L2 e) := by
                  intro cN hc
                  have h1 := HT2.out; have h2 := HTT.out
                  rcases hc with ⟨rfl, e⟩ | ⟨rfl, e⟩ | ⟨rfl, rfl⟩
                  · have hfe := HFIX.out e
                    rw [hfe]
                    exact ⟨HTT, Lib.hid fun h3 => HTK.out L1 (HFX.out h3) (by rw [HX.out, HY.out]; exact e)⟩
                  · exact ⟨Lib.hid ⟨by omega, fun _ => by have := h1.2 e; omega⟩, Lib.hid fun h => (by cases h)⟩
                  · exact ⟨Lib.hid ⟨by omega, fun _ => by have := h2.2 rfl; omega⟩, Lib.hid fun h => (by cases h)⟩
                clear HT2 HTT HFIX HTK HFX HX HY HSO
                cases c2
                · rcases HC with ⟨rfl, rfl⟩ | ⟨rfl, e1, e2, e3⟩ | ⟨e1, e2, rfl, e3⟩
                  · have HN := HNEW false (.inl ⟨rfl, rfl⟩); clear HNEW
                    go_wp2_with fail
                    go_roundw
                    case rel => exact ⟨k + 1, false, L2, by omega, by go_num, rfl, HS2, HN.1, HN.2, HO9, HB9, X9⟩
                    case measure => simp [intOf]; omega
                  · have HN := HNEW true (.inr (.inl ⟨rfl, e3⟩)); clear HNEW e3
                    go_wp2_with fail
                    go_roundw
                    case rel => exact ⟨k + 1, true, L2, by omega, by go_num, rfl, HS2, HN.1, HN.2, HO9, HB9, X9⟩
                    case measure => simp [intOf]; omega
                  · have HN := HNEW true (.inr (.inl ⟨rfl, e3⟩)); clear HNEW e3
                    go_wp2_with fail
                    go_roundw
                    case rel => exact ⟨k + 1, true, L2, by omega, by go_num, rfl, HS2, HN.1, HN.2, HO9, HB9, X9⟩
                    case measure => simp [intOf]; omega
                · have HN := HNEW true (.inr (.inr ⟨rfl, rfl⟩)); clear HNEW HC
                  go_wp2_with fail
                  go_roundw
                  case rel => exact ⟨k + 1, true, L2, by omega, by go_num, rfl, HS2, HN.1, HN.2, HO9, HB9, X9⟩
                  case measure => simp [intOf]; omega
              · obtain rfl : k = l := by omega
                have hll := HSO.out.len
                have HR1 := Lib.hid (rowI_eq HO.out hll)
                have HF9 : Hid (c2 = false → ∀ e ∈ ys, fixedE L1 e) := Lib.hid (by have := HFX.out; rwa [List.take_of_length_le (by rw [HL.out]; exact Nat.le_refl _)] at this)
                clear hll
                go_wp2_with fail
                go_roundw
                case rel => exact ⟨c2, L1, rfl, HSO, HF9, HO, HB, X⟩
                case measure =>
                  rw [HR1.out, HR0.out, HZ.out]
                  have h1 := HTT.out
                  cases c2
                  · show 2 * total L1 + 0 < 2 * z + 1; omega
                  · have := h1.2 rfl
                    show 2 * total L1 + 1 < 2 * z + 1; omega
end Go.Proofs.YtobhekkgbccoiaaDoor
