/-
  Distances by edges: the program's walk through a queue.
-/
import Derived.Test.YtgdggkhdollieaaDoorDist
import Derived.Test.YtgdggkhdollieaaDoorQueue
import Derived.Test.YtgdggkhdollieaaDoorNext
import Derived.Test.YtgdggkhdollieaaDoorFill
namespace Go.Proofs.YtgdggkhdollieaaDoor
open Go.RowKit
set_option linter.unusedVariables false

set_option maxRecDepth 100000 in
set_option maxHeartbeats 8000000 in
theorem stepsOver_any (w : World) (b n s : Nat) (M : List Nat) (f : Nat → Nat → Bool) (hM : w.ownsRow b 67 1 (.slice (some ⟨b, 0, none⟩) n n) n (mks M)) (hMO : MaskOK f n M) (hn : n ≤ 16) (hs : s < n) (hf : ∀ u v, f u v = true → u < n ∧ v < n) (HT : TabW w) :
    Calls Tryd.prog 21 #[.slice (some ⟨b, 0, none⟩) n n, .int .i64 s] w fun e w' => ∃ D, IsDist (hopR f) n s D ∧ RetI w D e w' := by
  have HTB := Lib.hid HT; clear HT
  have hbl : b < w.heap.size := (hM.lt _ rfl).2
  have HM := Lib.hid hM; clear hM
  have hml : M.length = n := hMO.1
  have HML := Lib.hid hml; clear hml
  have HMO := Lib.hid hMO.2; clear hMO
  have HF := Lib.hid hf; clear hf
  have CU := Lib.hid (unknowns_any w n (by omega))
  have HBF := Lib.hid (Bfs.start (f := f) hs fun u v h => (HF.out u v h).1)
  have hlen0 : ((List.replicate n (-1 : Int)).set s 0).length = n := by simp
  have HINS := Lib.hid (ints_set (List.replicate n (-1)) s 0)
  generalize List.replicate n (-1 : Int) = D0 at *
  generalize hD1 : D0.set s 0 = D1 at *
  have HD1 := Lib.hid hD1; clear hD1
  have HL0 := Lib.hid hlen0; clear hlen0
  go_enter Tryd.func21, Tryd.ntmps21
  go_wp2_with fail
  refine CU.out.mono ?_
  rintro e w1 ⟨rfl, ho, hb⟩
  have hf1 := ho.frozenAt s
  have hcs : w1.cell? ⟨w.heap.size, s, none⟩ = some (.int .i64 (D0.getD s 0)) := by
    rw [ho.cellAt s (by omega)]
    exact ints_get D0 s (by have := ho.1; rw [ints_length] at this; omega)
  have hst := ho.stored s (.int .i64 0)
  rw [HINS.out] at hst
  have hc4 := Chg.of_grown hst.2
  have HB := Lib.hid (((hc4.below hb (Nat.le_refl _)).alloc (by have := hb.size; have := hc4.size; simp at *; omega) (.cells #[.int .i64 (s : Int)] 3)))
  have HQ := Lib.hid (QRow.one (w1.setCell ⟨w.heap.size, s, none⟩ (.int .i64 0)) (s : Int))
  have HO := Lib.hid (ownsRow_keep hst.1 ((Below.refl _ (w1.setCell ⟨w.heap.size, s, none⟩ (.int .i64 0))).alloc (Nat.le_refl _) (.cells #[.int .i64 (s : Int)] 3)))
  have hsz : w.heap.size < (w1.setCell ⟨w.heap.size, s, none⟩ (.int .i64 0)).heap.size := (hst.1.lt _ rfl).2
  have hsc : (w1.setCell ⟨w.heap.size, s, none⟩ (.int .i64 0)).heap.size = w1.heap.size := by simp [World.setCell]
  rw [hsc] at HQ hsz
  clear hst hc4 hb ho CU HINS hsc
  go_wp2_with fail
  generalize hbq0 : w1.heap.size = bq0 at *
  generalize (w1.setCell ⟨w.heap.size, s, none⟩ (.int .i64 0)).alloc (.cells #[.int .i64 (s : Int)] 3) = w2 at *
  clear hf1 hcs hbq0
  go_loopw [6] (fun q wr => ∃ (D : List Int) (Q : List Nat) (bq off cap : Nat), q = .slice (some ⟨bq, off, none⟩) (qs Q).length cap ∧ w.heap.size < bq ∧ Hid (Bfs f n s D Q fun _ _ => False) ∧ Hid (wr.ownsRow w.heap.size 3 1 (.slice (some ⟨w.heap.size, 0, none⟩) n n) n (ints D)) ∧ Hid (QRow wr bq off cap (qs Q)) ∧ Hid (Below w.heap.size w wr)) (fun q wr => 2 * unset (rowI wr w.heap.size n) + sliceLen q)
  case atStart => exact ⟨D1, [s], bq0, 0, 1, rfl, hsz, HBF, HO, HQ, HB⟩
  case round =>
    clear HBF HO HQ HB hsz
    obtain ⟨D, Q, bq, off, cap, rfl, hbq, HBF, HO, HQ, HB⟩ := hrel
    have HDL := Lib.hid HBF.out.len
    have HR0 := Lib.hid (rowI_eq HO.out HDL.out)
    cases Q with
    | nil =>
      have HO9 := Lib.hid ((Ow.of_row HO.out).mono (Nat.le_refl _) (Nat.le_refl _))
      have hl0 : (qs []).length = 0 := rfl
      rw [hl0] at *
      go_wp2_with fail
      go_ret
      exact ⟨D, HBF.out.dist, _, rfl, by rw [HDL.out]; exact HO9.out, HB.out⟩
    | cons u Q' =>
      have hl1 : (qs (u :: Q')).length = (qs Q').length + 1 := by simp [qs]
      have c0 : wr.cell? ⟨bq, off, none⟩ = some (.int .i64 (u : Int)) := by
        have := HQ.out.cell (i := 0) (by simp [qs])
        simpa [qs] using this
      obtain ⟨off', hoff, HQ'⟩ := QRow.cut (x := (u : Int)) (Q := qs Q') HQ.out
      have hcap := HQ.out.le
      obtain ⟨hun, hu0⟩ := HBF.out.inq u (by simp)
      have hmu := HMO.out u hun
      have cm : wr.cell? ⟨b, u, none⟩ = some (.int .u32 ((M.getD u 0 : Nat) : Int)) := by rw [(ownsRow_keep HM.out HB.out).cellAt u (by omega)]; exact mks_get M u (by rw [HML.out]; exact hun)
      generalize M.getD u 0 = mv at *
      have CL : Hid (Calls Tryd.prog 31 #[.int .u32 mv] wr (RetI wr (qs (bitsOf mv)))) := Lib.hid (list_any mv hmu.1 wr (HTB.out.keep HB.out))
      have HLM : Hid (∀ x, x ∈ bitsOf mv ↔ f u x = true) := Lib.hid fun x => by rw [bitsOf_mem (by have := hmu.1; omega), hmu.2 x]
      have hll32 : (bitsOf mv).length ≤ 32 := by unfold bitsOf; exact Nat.le_trans (List.length_filter_le _ _) (by simp)
      generalize bitsOf mv = L at *
      have hpop := HBF.out.pop L fun x hx => (HLM.out x).2 hx
      have HB2 := Lib.hid hpop.1; have HSC := Lib.hid hpop.2
      have HLE := Lib.hid fun j (hj : j < L.length) => (HLM.out _).1 (getD_inQ (d := 0) hj)
      clear hpop hmu hu0 HBF HLM HQ
      rw [hl1] at hcap
      rw [hl1]
      clear hl1
      generalize hk : (qs Q').length = k at *
      have HK := Lib.hid hk; clear hk
      rw [← qs_length] at hll32
      go_wp2_with fail
      refine CL.out.mono ?_
      rintro e w5 ⟨sl, rfl, hsl, hb⟩
      obtain ⟨a5, c5, rfl, hc5, hm5⟩ := Rd.form hsl.rd
      have hlo5 : bq < wr.heap.size := HQ'.out.lt
      have hlo5' := hb.size
      replace HB := Lib.hid (HB.out.tr hb); replace HO := Lib.hid (ownsRow_keep HO.out hb); replace HQ' := Lib.hid (HQ'.out.keep hb)
      generalize wr.heap.size = lo5 at hsl hlo5 hlo5'
      generalize hh5 : w5.heap.size = hi5 at hsl hlo5'
      have HLI := Lib.hid hsl
      have hhi5 : hi5 ≤ w5.heap.size := by omega
      clear hsl hb CL hh5
      generalize hll : (qs L).length = ll at *
      have HLL := Lib.hid hll; clear hll
      go_wp2_with fail
      go_loopw [6, 32] (fun q i wv => ∃ (j : Nat) (D1 : List Int) (Q : List Nat) (bq off cap : Nat), j ≤ ll ∧ i = .int .i64 j ∧ q = .slice (some ⟨bq, off, none⟩) (qs Q).length cap ∧ (w.heap.size < bq ∧ (bq < lo5 ∨ hi5 ≤ bq)) ∧ 2 * unset D1 + (qs Q).length ≤ 2 * unset D + k ∧ hi5 ≤ wv.heap.size ∧ Hid (Bfs f n s D1 Q fun a b => a = u ∧ b ∈ L.drop j) ∧ Hid (Scan n D1 Q u) ∧ Hid (wv.ownsRow w.heap.size 3 1 (.slice (some ⟨w.heap.size, 0, none⟩) n n) n (ints D1)) ∧ Hid (QRow wv bq off cap (qs Q)) ∧ Hid (Ow lo5 hi5 wv 3 1 (.slice a5 ll c5) ll (ints (qs L))) ∧ Hid (Below w.heap.size w wv)) (fun _ i _ => ll - (intOf i).toNat)
      case atStart => exact ⟨0, D, Q', bq, off', cap - 1, Nat.zero_le _, rfl, by rw [HK.out], ⟨hbq, .inl hlo5⟩, by rw [HK.out]; exact Nat.le_refl _, hhi5, HB2, HSC, HO, HQ', HLI, HB⟩
      case round =>
        clear HB2 HSC HO HQ' HLI HB
        obtain ⟨j, D1, Q, bq1, off1, cap1, hj, rfl, rfl, hbq1, hmm, hhi, HBF, HSC, HO, HQ, HLI, HB⟩ := hrel
        generalize hk2 : (qs Q).length = k2 at *
        have HK2 := Lib.hid hk2; clear hk2
        by_cases hjl : j < ll
        · have hjL : j < L.length := by rw [← qs_length, HLL.out]; exact hjl
          have HDL1 := Lib.hid HBF.out.len
          have hrd : Rd wr 1 (.slice a5 (qs L).length c5) (qs L).length (ints (qs L)) := by rw [HLL.out]; exact HLI.out.rd
          obtain ⟨a', c', hv, -, -, h3⟩ := hrd.int
          simp only [Value.slice.injEq, true_and] at hv
          obtain ⟨rfl, rfl⟩ := hv
          obtain ⟨b1, o1, rfl, hb1, cq⟩ := h3.out j (by rw [HLL.out]; exact hjl)
          rw [qs_getD hjL] at cq
          have hfx := HLE.out j hjL
          generalize hx : L.getD j 0 = x at *
          have hxn := (HF.out _ _ hfx).2
          have cx : wr.cell? ⟨w.heap.size, x, none⟩ = some (.int .i64 (D1.getD x 0)) := by rw [HO.out.cellAt x (by omega)]; exact ints_get D1 x (by rw [HDL1.out]; exact hxn)
          have cu : wr.cell? ⟨w.heap.size, u, none⟩ = some (.int .i64 (D1.getD u 0)) := by rw [HO.out.cellAt u (by omega)]; exact ints_get D1 u (by rw [HDL1.out]; exact hun)
          by_cases hdx : D1.getD x 0 = -1
          · obtain ⟨hp1, hp2, hp3⟩ := HBF.out.push HSC.out hjL hx hxn hfx hdx
            have hdu0 := HSC.out.pos; have hdu1 := HBF.out.bnd u hun
            have hcnt := HBF.out.cnt
            rw [← qs_length, HK2.out] at hcnt
            have hbs := (HO.out.lt _ rfl).2
            have fx := HO.out.frozenAt x
            have hst := HO.out.stored x (.int .i64 (D1.getD u 0 + 1))
            rw [ints_set] at hst
            rw [hdx] at cx
            have HBF2 := Lib.hid hp1; have HSC2 := Lib.hid hp2
            clear hp1 hp2 HBF HSC hx hrd h3
            generalize hDD : D1.set x (D1.getD u 0 + 1) = D2 at *
            clear hDD hdx
            generalize D1.getD u 0 = du at *
            have hc4 := Chg.of_grown hst.2
            have hsc : (wr.setCell ⟨w.heap.size, x, none⟩ (.int .i64 (du + 1))).heap.size = wr.heap.size := by simp [World.setCell]
            have hal : Below (wr.setCell ⟨w.heap.size, x, none⟩ (.int .i64 (du + 1))).heap.size (wr.setCell ⟨w.heap.size, x, none⟩ (.int .i64 (du + 1))) ((wr.setCell ⟨w.heap.size, x, none⟩ (.int .i64 (du + 1))).alloc (.cells #[.int .i64 (x : Int)] 3)) := (Below.refl _ _).alloc (Nat.le_refl _) _
            have HOA := Lib.hid (ownsRow_keep hst.1 hal)
            have HQA := Lib.hid ((HQ.out.chg hc4 (.inr (by omega))).keep hal)
            have HLA := Lib.hid ((HLI.out.chg hc4 (by omega)).keep hal)
            have HBA := Lib.hid ((hc4.below HB.out (Nat.le_refl _)).tr hal)
            have hz : ((wr.setCell ⟨w.heap.size, x, none⟩ (.int .i64 (du + 1))).alloc (.cells #[.int .i64 (x : Int)] 3)).cell? ⟨wr.heap.size, 0, none⟩ = some (.int .i64 (x : Int)) := by
              have := box_cell (heap_alloc_new (wr.setCell ⟨w.heap.size, x, none⟩ (.int .i64 (du + 1))) (.cells #[.int .i64 (x : Int)] 3)) 0 _ rfl
              rwa [hsc] at this
            have has : ((wr.setCell ⟨w.heap.size, x, none⟩ (.int .i64 (du + 1))).alloc (.cells #[.int .i64 (x : Int)] 3)).heap.size = wr.heap.size + 1 := by simp [World.setCell]
            clear hst hc4 hal hsc HO HQ HLI HB
            go_wp2_with (at_builtin; refine wpList_appendQ rfl _ _ 29 rfl Tryd.underlying29 infoInt bq1 off1 cap1 (qs Q) HQA.out k2 HK2.out rfl _ (x : Int) rfl hz (by rw [HK2.out]; omega) ?_; intro bq' off'' cap' w9 hq9 hbq9 hc9)
            have hs9 := hc9.size
            have HQ9 := Lib.hid hq9
            have HO9 := Lib.hid (own_side HOA.out hc9 (.inl (by omega)))
            have HL9 := Lib.hid (HLA.out.chg hc9 (by omega))
            have HB9 := Lib.hid (hc9.below HBA.out (by omega))
            rw [has] at hs9 hbq9
            rw [← qs_snoc] at HQ9
            clear hq9 hc9 HOA HQA HLA HBA hz
            go_roundw
            case rel => exact ⟨j + 1, D2, Q ++ [x], bq', off'', cap', by omega, by go_num, by rw [qs_snoc, List.length_append, HK2.out]; rfl, by omega, by rw [qs_snoc, List.length_append, HK2.out]; simp only [List.length_singleton]; omega, by omega, HBF2, HSC2, HO9, HQ9, HL9, HB9⟩
            case measure => simp [intOf]; omega
          · have HBF2 := Lib.hid (HBF.out.skip HSC.out hjL (by rw [hx]; exact hxn) (by rw [hx]; exact hdx))
            have hdx' : (D1.getD x 0 == -1) = false := by simpa using hdx
            clear HBF hx hdx hrd h3
            generalize D1.getD x 0 = dx at *
            go_wp2_with fail
            go_roundw
            case rel => exact ⟨j + 1, D1, Q, bq1, off1, cap1, by omega, by go_num, by rw [HK2.out], hbq1, by rw [HK2.out]; exact hmm, hhi, HBF2, HSC, HO, HQ, HLI, HB⟩
            case measure => simp [intOf]; omega
        · obtain rfl : j = ll := by omega
          have HBF9 := Lib.hid (HBF.out.fin (by rw [← HLL.out, qs_length]; exact Nat.le_refl _))
          have HR1 := Lib.hid (rowI_eq HO.out HBF.out.len)
          clear HBF HSC HLI
          go_wp2_with fail
          go_roundw
          case rel => exact ⟨D1, Q, bq1, off1, cap1, by rw [HK2.out], hbq1.1, HBF9, HO, HQ, HB⟩
          case measure =>
            rw [HR1.out, HR0.out]
            simp only [sliceLen]; omega

def hopsFrom (g : GraphD) (a : Int) : List Int := if graphOk g = true ∧ (0 ≤ a ∧ a < g.1) then hopsTo g.2 ((List.replicate g.1.toNat (-1)).set a.toNat 0) g.1.toNat else []
theorem hopsFrom_no {g : GraphD} {a : Int} (h : graphOk g = false ∨ ¬ (0 ≤ a ∧ a < g.1)) : hopsFrom g a = [] := by
  unfold hopsFrom
  rw [if_neg]
  rintro ⟨h1, h2⟩
  rcases h with h | h
  · rw [h] at h1; cases h1
  · exact h h2
theorem hopsFrom_yes {g : GraphD} {n a : Nat} (h : graphOk g = true) (hn : g.1 = (n : Int)) (ha : a < n) : hopsFrom g (a : Int) = hopsTo g.2 ((List.replicate n (-1)).set a 0) n := by
  unfold hopsFrom
  rw [if_pos ⟨h, by omega, by omega⟩, hn, Int.toNat_natCast, Int.toNat_natCast]
theorem hopsFrom_length (g : GraphD) (a : Int) : (hopsFrom g a).length ≤ 16 := by
  unfold hopsFrom
  split
  · rename_i h
    have := (graphOk_yes h.1).1
    rw [hopsTo_length]; simp; omega
  · simp
theorem next_ends {g : GraphD} (hok : GraphOk g) : ∀ e ∈ g.2, ∃ a b : Nat, e.1 = (a : Int) ∧ e.2.1 = (b : Int) ∧ a < g.1.toNat ∧ b < g.1.toNat ∧ nextP g.2 a b = true := fun e he => by
  have h := ends_lt hok he
  refine ⟨e.1.toNat, e.2.1.toNat, by omega, by omega, by omega, by omega, ?_⟩
  simp only [nextP, List.any_eq_true, Bool.and_eq_true, decide_eq_true_eq]
  exact ⟨e, he, by omega, by omega⟩
theorem next_edge {g : GraphD} : ∀ u v, nextP g.2 u v = true → ∃ e ∈ g.2, e.1 = (u : Int) ∧ e.2.1 = (v : Int) := fun u v h => by
  simpa only [nextP, List.any_eq_true, Bool.and_eq_true, decide_eq_true_eq] using h
theorem next_in {g : GraphD} (hok : GraphOk g) : ∀ u v, nextP g.2 u v = true → u < g.1.toNat ∧ v < g.1.toNat := fun u v h => by
  obtain ⟨e, he, h1, h2⟩ := next_edge u v h
  have := ends_lt hok he
  omega
theorem hopFold_len (t : Nat) : ∀ (ys : List Tri) (D : List Int), (ys.foldl (hopEdge t) D).length = D.length
  | [], _ => rfl
  | y :: ys, D => by rw [List.foldl_cons, hopFold_len t ys]; unfold hopEdge; split <;> simp

set_option maxRecDepth 100000 in
set_option maxHeartbeats 4000000 in
theorem implHopsFrom_any (w : World) (va : Value) (g : GraphD) (v : Int) (h : RdGraph w va g) (HT : TabW w) : Calls Tryd.prog 10 #[va, .int .i64 v] w (RetI w (hopsFrom g v)) := by
  have HTB := Lib.hid HT; clear HT
  have HRG := Lib.hid h
  obtain ⟨p, c, rfl, hr, hc, hmx⟩ := h.form
  clear h hr
  have HOUT := Lib.hid fun hx => hopsFrom_no (g := g) (a := v) (.inr hx)
  have HNO := Lib.hid fun hx => hopsFrom_no (g := g) (a := v) (.inl hx)
  have HYES := Lib.hid fun hx n a hn ha => hopsFrom_yes (g := g) (n := n) (a := a) hx hn ha
  have HNI := Lib.hid fun ho => next_in (g := g) ho
  have HUQ := Lib.hid fun ho n a (hs : a < n) (hn : g.1.toNat = n) => hops_dist (f := nextP g.2) hs (fun e he => by have := next_ends (g := g) ho e he; rwa [hn] at this) (next_edge (g := g))
  obtain ⟨m, ys⟩ := g
  simp only at hc HOUT HNO HYES HNI HUQ ⊢
  have HB : Hid (Below w.heap.size w (w.alloc (.cells #[.int .i64 m, .slice p ys.length c] 25))) := Lib.hid (by go_grown)
  have X := Lib.hid (heap_alloc_new w (.cells #[.int .i64 m, .slice p ys.length c] 25))
  have HV := Lib.hid fun wx (hb : Below w.heap.size w wx) => implGraphValid_any wx _ _ (HRG.out.keep hb)
  cases hok : graphOk (m, ys)
  · rw [hok] at HV
    rw [HNO.out hok]
    go_enter Tryd.func10, Tryd.ntmps10
    go_wp2_with fail
    refine (HV.out _ HB.out).mono ?_
    rintro e w1 ⟨rfl, hb⟩
    replace HB := Lib.hid (HB.out.tr hb); clear hb
    go_wp2_with fail
    go_ret
    exact ⟨_, rfl, Ow.nil _ _ _ _ _ _, HB.out⟩
  · rw [hok] at HV
    have hgo := graphOk_yes hok
    by_cases hv : 0 ≤ v ∧ v < m
    · have E1 := Lib.hid (decide_eq_true hv)
      have HMS := Lib.hid fun wx (hb : Below w.heap.size w wx) => nextMasks_any wx _ _ (HRG.out.keep hb) hgo
      have hm := hgo.1
      simp only at hm HMS
      obtain ⟨n, rfl⟩ := Int.eq_ofNat_of_zero_le hm.1
      obtain ⟨u, rfl⟩ := Int.eq_ofNat_of_zero_le hv.1
      rw [Int.toNat_natCast] at HMS
      have hun : u < n := by omega
      rw [HYES.out hok n u rfl hun]
      have HD := Lib.hid (HUQ.out hgo n u hun (Int.toNat_natCast n))
      have HF := Lib.hid (HNI.out hgo)
      rw [Int.toNat_natCast] at HF
      clear hgo HOUT hv hok HNO HYES HNI HUQ
      generalize hopsTo ys ((List.replicate n (-1)).set u 0) n = D at *
      generalize nextP ys = f at *
      generalize hl : ys.length = l at *
      clear hl
      have k0 := box_cell X.out 0 _ rfl; have k1 := box_cell X.out 1 _ rfl
      go_enter Tryd.func10, Tryd.ntmps10
      go_wp2_with fail
      refine (HV.out _ HB.out).mono ?_
      rintro e w1 ⟨rfl, hb⟩
      replace HB := Lib.hid (HB.out.tr hb); replace X := Lib.hid (box_keep X.out hb); clear hb HV k0 k1
      have k0 := box_cell X.out 0 _ rfl; have k1 := box_cell X.out 1 _ rfl
      go_wp2_with fail
      refine (has_any _ _ _ _ _ _).mono ?_
      rw [E1.out]
      rintro e w2 ⟨rfl, hw2⟩
      have hb : Below w1.heap.size w1 w2 := by rw [hw2]; exact (Below.refl _ _).alloc (Nat.le_refl _) _
      replace HB := Lib.hid (HB.out.tr hb); replace X := Lib.hid (box_keep X.out hb); clear hb hw2 k0 k1
      have k0 := box_cell X.out 0 _ rfl; have k1 := box_cell X.out 1 _ rfl
      go_wp2_with fail
      refine (HMS.out _ HB.out).mono ?_
      rintro e w3 ⟨b, M, rfl, hbb, ho, hM, hb⟩
      replace HB := Lib.hid (HB.out.tr hb); clear hb X k0 k1
      have CS := Lib.hid (stepsOver_any w3 b n u M f ho hM (by omega) hun HF.out (HTB.out.keep HB.out))
      clear hM ho HMS
      go_wp2_with fail
      refine CS.out.mono ?_
      rintro e w4 ⟨D', hd, s, rfl, hs, hb⟩
      obtain rfl := hd.unique HD.out
      have HS := Lib.hid (hs.mono (show w.heap.size ≤ w3.heap.size from HB.out.size) (Nat.le_refl _))
      replace HB := Lib.hid (HB.out.tr hb); clear hs hb CS
      go_wp2_with fail
      go_ret
      exact ⟨_, rfl, HS.out, HB.out⟩
    · have E1 := Lib.hid (decide_eq_false hv)
      rw [HOUT.out hv]
      clear hv HOUT hgo hok HNO HYES HNI HUQ
      generalize hl : ys.length = l at *
      clear hl
      have k0 := box_cell X.out 0 _ rfl; have k1 := box_cell X.out 1 _ rfl
      go_enter Tryd.func10, Tryd.ntmps10
      go_wp2_with fail
      refine (HV.out _ HB.out).mono ?_
      rintro e w1 ⟨rfl, hb⟩
      replace HB := Lib.hid (HB.out.tr hb); replace X := Lib.hid (box_keep X.out hb); clear hb HV k0 k1
      have k0 := box_cell X.out 0 _ rfl; have k1 := box_cell X.out 1 _ rfl
      go_wp2_with fail
      refine (has_any _ _ _ _ _ _).mono ?_
      rw [E1.out]
      rintro e w2 ⟨rfl, hw2⟩
      have hb : Below w1.heap.size w1 w2 := by rw [hw2]; exact (Below.refl _ _).alloc (Nat.le_refl _) _
      replace HB := Lib.hid (HB.out.tr hb); clear hb hw2 k0 k1
      go_wp2_with fail
      go_ret
      exact ⟨_, rfl, Ow.nil _ _ _ _ _ _, HB.out⟩

theorem own_self {base b n c s : Nat} {w : World} {e : TypeId} {cs : List Value} (h : w.ownsRow base e s (.slice (some ⟨b, 0, none⟩) n c) n cs) : w.ownsRow b e s (.slice (some ⟨b, 0, none⟩) n c) n cs := by
  refine ⟨h.1, ?_⟩
  rcases h.2 with h2 | ⟨g, cap, cur, hv, hb, hg, r⟩
  · exact .inl h2
  · have hgb : g = b := by simp only [Value.slice.injEq, Option.some.injEq, Addr.mk.injEq] at hv; exact hv.1.1.symm
    subst hgb
    exact .inr ⟨g, cap, cur, hv, Nat.le_refl _, hg, r⟩
end Go.Proofs.YtgdggkhdollieaaDoor
