/-
  Least costs: the program's function and the reference's.
-/
import Derived.Test.YtgdggkhdollieaaDoorGraphV
import Derived.Test.YtgdggkhdollieaaDoorLeastC
namespace Go.Proofs.YtgdggkhdollieaaDoor
open Go.RowKit
set_option linter.unusedVariables false

def costsFrom (g : GraphD) (a : Int) : List Int := if graphOk g = true ∧ (0 ≤ a ∧ a < g.1) then costsTo g.2 ((List.replicate g.1.toNat (-1)).set a.toNat 0) g.1.toNat else []
theorem costsFrom_no {g : GraphD} {a : Int} (h : graphOk g = false ∨ ¬ (0 ≤ a ∧ a < g.1)) : costsFrom g a = [] := by
  unfold costsFrom
  rw [if_neg]
  rintro ⟨h1, h2⟩
  rcases h with h | h
  · rw [h] at h1; cases h1
  · exact h h2
theorem costsFrom_yes {g : GraphD} {n a : Nat} (h : graphOk g = true) (hn : g.1 = (n : Int)) (ha : a < n) : costsFrom g (a : Int) = costsTo g.2 ((List.replicate n (-1)).set a 0) n := by
  unfold costsFrom
  rw [if_pos ⟨h, by omega, by omega⟩, hn, Int.toNat_natCast, Int.toNat_natCast]
theorem costsFrom_length (g : GraphD) (a : Int) : (costsFrom g a).length ≤ 16 := by
  unfold costsFrom
  split
  · rename_i h
    have := (graphOk_yes h.1).1
    rw [costsTo_length]; simp; omega
  · simp
theorem costs_ends {g : GraphD} (hok : GraphOk g) : ∀ e ∈ g.2, ∃ a b x : Nat, e.1 = (a : Int) ∧ e.2.1 = (b : Int) ∧ e.2.2 = (x : Int) ∧ a < g.1.toNat ∧ b < g.1.toNat ∧ a ≠ b ∧ x ≤ 20 := fun e he => by
  obtain ⟨k, hk, rfl⟩ := List.mem_iff_getElem.1 he
  have h := hok.2.2 k hk
  have e : g.2.getD k triZ = g.2[k] := by simp [hk]
  unfold EdgeAt at h
  rw [e] at h
  refine ⟨(g.2[k]).1.toNat, (g.2[k]).2.1.toNat, (g.2[k]).2.2.toNat, by omega, by omega, by omega, by omega, by omega, by omega, by omega⟩
theorem costs_edge {g : GraphD} (h : GraphOk g) {k : Nat} (hk : k < g.2.length) : ∃ a b : Nat, (g.2.getD k triZ).1 = (a : Int) ∧ (g.2.getD k triZ).2.1 = (b : Int) ∧ a < g.1.toNat ∧ b < g.1.toNat ∧ a ≠ b ∧ g.1.toNat ≤ 16 := by
  obtain ⟨h0, h1, h2⟩ := h
  obtain ⟨e1, e2, e3, -, -⟩ := h2 k hk
  refine ⟨(g.2.getD k triZ).1.toNat, (g.2.getD k triZ).2.1.toNat, ?_, ?_, ?_, ?_, ?_, ?_⟩ <;> omega
theorem costFold_len : ∀ (ys : List Tri) (D : List Int), (ys.foldl costEdge D).length = D.length
  | [], _ => rfl
  | y :: ys, D => by rw [List.foldl_cons, costFold_len ys]; unfold costEdge; split <;> simp
def Bnd (D : List Int) (M : Int) : Prop := ∀ v, -1 ≤ D.getD v 0 ∧ D.getD v 0 ≤ M
theorem Bnd.edge {D : List Int} {M : Int} (h : Bnd D M) (hM : 0 ≤ M) {e : Tri} (he : 0 ≤ e.2.2 ∧ e.2.2 ≤ 20) : Bnd (costEdge D e) (M + 20) := fun v => by
  unfold costEdge
  have h1 := h v; have h2 := h e.1.toNat
  split
  · by_cases hb : e.2.1.toNat < D.length
    · by_cases hv : v = e.2.1.toNat
      · rw [hv, getD_set_eq _ hb]; omega
      · rw [getD_set_ne' _ hv]; omega
    · rw [List.set_eq_of_length_le (by omega)]; omega
  · omega
theorem Bnd.fold : ∀ (ys : List Tri) {D : List Int} {M : Int}, Bnd D M → 0 ≤ M → (∀ e ∈ ys, 0 ≤ e.2.2 ∧ e.2.2 ≤ 20) → Bnd (ys.foldl costEdge D) (M + 20 * (ys.length : Int))
  | [], D, M, h, _, _ => by simpa using h
  | y :: ys, D, M, h, hM, he => by
    have h1 := Bnd.fold ys (h.edge hM (he y (by simp))) (by omega) fun e h => he e (by simp [h])
    rw [List.foldl_cons]
    intro v
    have := h1 v
    simp only [List.length_cons]
    omega
theorem costsTo_bnd {ys : List Tri} {D : List Int} (hl : ys.length ≤ 40) (he : ∀ e ∈ ys, 0 ≤ e.2.2 ∧ e.2.2 ≤ 20) (h0 : Bnd D 0) : ∀ t : Nat, Bnd (costsTo ys D t) (800 * (t : Int))
  | 0 => by simpa [costsTo] using h0
  | t + 1 => by
    have h := Bnd.fold ys (costsTo_bnd hl he h0 t) (by omega) he
    intro v
    have := h v
    rw [costsTo]
    omega
theorem costs_bound {ys : List Tri} {n u : Nat} (hl : ys.length ≤ 40) (he : ∀ e ∈ ys, 0 ≤ e.2.2 ∧ e.2.2 ≤ 20) : ∀ t k : Nat, k ≤ ys.length → ∀ v, -1 ≤ ((ys.take k).foldl costEdge (costsTo ys ((List.replicate n (-1)).set u 0) t)).getD v 0 ∧ ((ys.take k).foldl costEdge (costsTo ys ((List.replicate n (-1)).set u 0) t)).getD v 0 ≤ 800 * (t : Int) + 800 := fun t k hk v => by
  have h0 : Bnd ((List.replicate n (-1 : Int)).set u 0) 0 := fun v => by
    by_cases hu : u < n
    · by_cases e : v = u
      · rw [e, getD_set_eq _ (by simpa using hu)]; omega
      · rw [getD_set_ne' _ e]
        by_cases hv : v < n
        · simp [hv]
        · simp [Nat.le_of_not_lt hv]
    · rw [List.set_eq_of_length_le (by simpa using Nat.le_of_not_lt hu)]
      by_cases hv : v < n
      · simp [hv]
      · simp [Nat.le_of_not_lt hv]
  have h := Bnd.fold (ys.take k) (costsTo_bnd hl he h0 t) (by omega) (fun e h => he e (List.mem_of_mem_take h)) v
  rw [List.length_take] at h
  omega
theorem own_selfC {base b n c s : Nat} {w : World} {e : TypeId} {cs : List Value} (h : w.ownsRow base e s (.slice (some ⟨b, 0, none⟩) n c) n cs) : w.ownsRow b e s (.slice (some ⟨b, 0, none⟩) n c) n cs := by
  refine ⟨h.1, ?_⟩
  rcases h.2 with h2 | ⟨g, cap, cur, hv, hb, hg, r⟩
  · exact .inl h2
  · have hgb : g = b := by simp only [Value.slice.injEq, Option.some.injEq, Addr.mk.injEq] at hv; exact hv.1.1.symm
    subst hgb
    exact .inr ⟨g, cap, cur, hv, Nat.le_refl _, hg, r⟩

set_option maxRecDepth 100000 in
set_option maxHeartbeats 4000000 in
theorem implCostsFrom_any (w : World) (va : Value) (g : GraphD) (v : Int) (h : RdGraph w va g) : Calls Tryd.prog 6 #[va, .int .i64 v] w (RetI w (costsFrom g v)) := by
  have HRG := Lib.hid h
  obtain ⟨p, c, rfl, hr, hc, hmx⟩ := h.form
  have HR : Hid (Rd w 3 (.slice p g.2.length c) g.2.length (tris g.2)) := Lib.hid hr
  clear h hr
  have HOUT := Lib.hid fun hx => costsFrom_no (g := g) (a := v) (.inr hx)
  have HNO := Lib.hid fun hx => costsFrom_no (g := g) (a := v) (.inl hx)
  have HYES := Lib.hid fun hx n a hn ha => costsFrom_yes (g := g) (n := n) (a := a) hx hn ha
  have HEE := Lib.hid fun ho => costs_ends (g := g) ho
  obtain ⟨m, ys⟩ := g
  simp only at hc HOUT HNO HYES HEE HR ⊢
  have HB : Hid (Below w.heap.size w (w.alloc (.cells #[.int .i64 m, .slice p ys.length c] 25))) := Lib.hid (by go_grown)
  have X := Lib.hid (heap_alloc_new w (.cells #[.int .i64 m, .slice p ys.length c] 25))
  have HV := Lib.hid fun wx (hb : Below w.heap.size w wx) => implGraphValid_any wx _ _ (HRG.out.keep hb)
  cases hok : graphOk (m, ys)
  · rw [hok] at HV
    rw [HNO.out hok]
    go_enter Tryd.func6, Tryd.ntmps6
    go_wp2_with fail
    refine (HV.out _ HB.out).mono ?_
    rintro e w1 ⟨rfl, hb⟩
    replace HB := Lib.hid (HB.out.tr hb); clear hb
    go_wp2_with fail
    go_ret
    exact ⟨_, rfl, Ow.nil _ _ _ _ _ _, HB.out⟩
  · rw [hok] at HV
    have hgo := graphOk_yes hok
    by_cases hv : 0 ≤ v ∧ v < m
    · have E1 := Lib.hid (decide_eq_true hv)
      have hm := hgo.1
      have hl40 := hgo.2.1
      simp only at hm hl40
      obtain ⟨n, rfl⟩ := Int.eq_ofNat_of_zero_le hm.1
      obtain ⟨u, rfl⟩ := Int.eq_ofNat_of_zero_le hv.1
      have hun : u < n := by omega
      have hE := HEE.out hgo
      simp only [Int.toNat_natCast] at hE
      have HMS := Lib.hid fun wx (hb : Below w.heap.size w wx) => lists_any wx p c n ys (HR.out.keep hb) (fun e he => by obtain ⟨a, b, x, e1, e2, e3, e4, e5, e6, e7⟩ := hE e he; omega) (by omega) (by omega)
      have CSF := Lib.hid fun wx q bk ho hF => leastCosts_any wx q n u bk ys ho hF hE hun (by omega) (by omega)
      rw [HYES.out hok n u rfl hun]
      have HD := Lib.hid (costs_dist hun fun e he => by obtain ⟨a, b, x, e1, e2, e3, e4, e5, e6, e7⟩ := hE e he; exact ⟨a, b, x, e1, e2, e3, e4, e5, e6⟩)
      clear hgo HOUT hv hok HNO HYES HEE HR hE
      generalize costsTo ys ((List.replicate n (-1)).set u 0) n = D at *
      generalize hl : ys.length = l at *
      clear hl
      have k0 := box_cell X.out 0 _ rfl; have k1 := box_cell X.out 1 _ rfl
      go_enter Tryd.func6, Tryd.ntmps6
      go_wp2_with fail
      refine (HV.out _ HB.out).mono ?_
      rintro e w1 ⟨rfl, hb⟩
      replace HB := Lib.hid (HB.out.tr hb); replace X := Lib.hid (box_keep X.out hb); clear hb HV k0 k1
      have k0 := box_cell X.out 0 _ rfl; have k1 := box_cell X.out 1 _ rfl
      go_wp2_with fail
      refine (has_any _ _ _ _ _ _).mono ?_
      rw [E1.out]
      rintro e w2 ⟨rfl, hw2⟩
      have hb : Below w1.heap.size w1 w2 := by rw [hw2]; exact (Below.refl _ _).alloc (Nat.le_refl _) _
      replace HB := Lib.hid (HB.out.tr hb); replace X := Lib.hid (box_keep X.out hb); clear hb hw2 k0 k1
      have k0 := box_cell X.out 0 _ rfl; have k1 := box_cell X.out 1 _ rfl
      go_wp2_with fail
      refine (HMS.out _ HB.out).mono ?_
      rintro e w3 ⟨q, bk, rfl, hbb, ho, hF, hb⟩
      replace HB := Lib.hid (HB.out.tr hb); clear hb X k0 k1
      have CS := Lib.hid (CSF.out w3 q bk ho hF)
      clear hF ho HMS CSF
      go_wp2_with fail
      refine CS.out.mono ?_
      rintro e w4 ⟨D', hd, s, rfl, hs, hb⟩
      obtain rfl := hd.unique HD.out
      have HS := Lib.hid (hs.mono (show w.heap.size ≤ w3.heap.size from HB.out.size) (Nat.le_refl _))
      replace HB := Lib.hid (HB.out.tr hb); clear hs hb CS
      go_wp2_with fail
      go_ret
      exact ⟨_, rfl, HS.out, HB.out⟩
    · have E1 := Lib.hid (decide_eq_false hv)
      rw [HOUT.out hv]
      clear hv HOUT hgo hok HNO HYES HEE HR
      generalize hl : ys.length = l at *
      clear hl
      have k0 := box_cell X.out 0 _ rfl; have k1 := box_cell X.out 1 _ rfl
      go_enter Tryd.func6, Tryd.ntmps6
      go_wp2_with fail
      refine (HV.out _ HB.out).mono ?_
      rintro e w1 ⟨rfl, hb⟩
      replace HB := Lib.hid (HB.out.tr hb); replace X := Lib.hid (box_keep X.out hb); clear hb HV k0 k1
      have k0 := box_cell X.out 0 _ rfl; have k1 := box_cell X.out 1 _ rfl
      go_wp2_with fail
      refine (has_any _ _ _ _ _ _).mono ?_
      rw [E1.out]
      rintro e w2 ⟨rfl, hw2⟩
      have hb : Below w1.heap.size w1 w2 := by rw [hw2]; exact (Below.refl _ _).alloc (Nat.le_refl _) _
      replace HB := Lib.hid (HB.out.tr hb); clear hb hw2 k0 k1
      go_wp2_with fail
      go_ret
      exact ⟨_, rfl, Ow.nil _ _ _ _ _ _, HB.out⟩

set_option maxRecDepth 100000 in
set_option maxHeartbeats 8000000 in
theorem specCostsFrom_any (w : World) (va : Value) (g : GraphD) (v : Int) (h : RdGraph w va g) : Calls Tryd.prog 7 #[va, .int .i64 v] w (RetI w (costsFrom g v)) := by
  have HRG := Lib.hid h
  obtain ⟨p, c, rfl, hr, hc, hmx⟩ := h.form
  clear h
  have HOUT := Lib.hid fun hx => costsFrom_no (g := g) (a := v) (.inr hx)
  have HNO := Lib.hid fun hx => costsFrom_no (g := g) (a := v) (.inl hx)
  have HYES := Lib.hid fun hx n a hn ha => costsFrom_yes (g := g) (n := n) (a := a) hx hn ha
  obtain ⟨m, ys⟩ := g
  simp only at hr hc HOUT HNO HYES ⊢
  have HR : Hid (Rd w 3 (.slice p ys.length c) ys.length (tris ys)) := Lib.hid hr
  clear hr
  have HB : Hid (Below w.heap.size w (w.alloc (.cells #[.int .i64 m, .slice p ys.length c] 25))) := Lib.hid (by go_grown)
  have X := Lib.hid (heap_alloc_new w (.cells #[.int .i64 m, .slice p ys.length c] 25))
  have HV := Lib.hid fun wx (hb : Below w.heap.size w wx) => specGraphValid_any wx _ _ (HRG.out.keep hb)
  cases hok : graphOk (m, ys)
  · rw [hok] at HV
    rw [HNO.out hok]
    go_enter Tryd.func7, Tryd.ntmps7
    go_wp2_with fail
    refine (HV.out _ HB.out).mono ?_
    rintro e w1 ⟨rfl, hb⟩
    replace HB := Lib.hid (HB.out.tr hb); clear hb
    go_wp2_with fail
    go_ret
    exact ⟨_, rfl, Ow.nil _ _ _ _ _ _, HB.out.alloc HB.out.size _⟩
  · rw [hok] at HV
    have hgo := graphOk_yes hok
    have hm := hgo.1
    simp only at hm
    by_cases hv : 0 ≤ v ∧ v < m
    · have CI := Lib.hid fun wx => l1In_is v 0 (m - 1) wx true (by simp; omega)
      obtain ⟨n, rfl⟩ := Int.eq_ofNat_of_zero_le hm.1
      obtain ⟨u, rfl⟩ := Int.eq_ofNat_of_zero_le hv.1
      have hun : u < n := by omega
      rw [HYES.out hok n u rfl hun]
      have HED := Lib.hid fun k (hk : k < ys.length) => costs_edge hgo hk
      have HWT := Lib.hid fun k (hk : k < ys.length) => (show 0 ≤ (ys.getD k triZ).2.2 ∧ (ys.getD k triZ).2.2 ≤ 20 by have h := hgo.2.2 k hk; unfold EdgeAt at h; simp only at h; omega)
      have HBD := Lib.hid (costs_bound (n := n) (u := u) hgo.2.1 (fun e he => by obtain ⟨a, b, x, e1, e2, e3, e4, e5, e6, e7⟩ := costs_ends hgo e he; omega))
      have hl40 := hgo.2.1
      simp only [Int.toNat_natCast] at HED hl40 HBD
      have HINS := Lib.hid (ints_set (List.replicate n (-1)) u 0)
      have HLN := Lib.hid fun t => costsTo_length ys ((List.replicate n (-1)).set u 0) t
      have hlen0 : ((List.replicate n (-1 : Int)).set u 0).length = n := by simp
      clear hgo HOUT hv hok HNO HYES
      have CF := Lib.hid fun wx => l8Fill_any wx n (-1) (by omega)
      generalize hD0 : List.replicate n (-1 : Int) = D0 at *
      have HD0 : Hid (D0.length = n) := Lib.hid (by rw [← hD0]; simp)
      clear hD0
      generalize D0.set u 0 = D1 at *
      rw [hlen0] at HLN
      clear hlen0
      generalize hl : ys.length = l at *
      have HL := Lib.hid hl; clear hl
      have k0 := box_cell X.out 0 _ rfl; have k1 := box_cell X.out 1 _ rfl
      go_enter Tryd.func7, Tryd.ntmps7
      go_wp2_with fail
      refine (HV.out _ HB.out).mono ?_
      rintro e w1 ⟨rfl, hb⟩
      replace HB := Lib.hid (HB.out.tr hb); replace X := Lib.hid (box_keep X.out hb); clear hb HV k0 k1
      have k0 := box_cell X.out 0 _ rfl; have k1 := box_cell X.out 1 _ rfl
      go_wp2_with fail
      refine (CI.out _).mono ?_
      rintro e w2 ⟨rfl, rfl⟩
      clear CI
      go_wp2_with fail
      refine (CF.out _).mono ?_
      rintro e w2 ⟨s, rfl, hs, hb⟩
      obtain ⟨b9, c9, rfl, hb9, hb9l, -, -⟩ := own_form hs (by omega)
      have hbx : w.heap.size < b9 := Nat.lt_of_lt_of_le (box_lt X.out) hb9
      have ho := own_selfC hs
      have hcs : w2.cell? ⟨b9, u, none⟩ = some (.int .i64 (D0.getD u 0)) := by rw [ho.cellAt u (by omega)]; exact ints_get D0 u (by rw [HD0.out]; exact hun)
      have hf1 := ho.frozenAt u
      have hst := ho.stored u (.int .i64 0)
      rw [HINS.out] at hst
      have hc4 := Chg.of_grown hst.2
      replace HB := Lib.hid (hc4.below (HB.out.tr hb) (Nat.le_of_lt hbx)); replace X := Lib.hid ((hc4.block _ (box_lt (box_keep X.out hb)) (.inl hbx)).trans (box_keep X.out hb))
      have HO := Lib.hid hst.1
      clear hst hc4 hb ho hs CF HINS k0 k1 HD0
      go_wp2_with fail
      generalize w2.setCell ⟨b9, u, none⟩ (.int .i64 0) = w3 at *
      clear hcs hf1
      go_loopw [6] (fun i wr => ∃ t : Nat, t ≤ n ∧ i = .int .i64 t ∧ Hid (wr.ownsRow b9 3 1 (.slice (some ⟨b9, 0, none⟩) n c9) n (ints (costsTo ys D1 t))) ∧ Hid (Below w.heap.size w wr) ∧ Hid (wr.heap[w.heap.size]? = some (.cells #[.int .i64 n, .slice p l c] 25 (0, 0)))) (fun i _ => n - (intOf i).toNat)
      case atStart => exact ⟨0, Nat.zero_le _, rfl, HO, HB, X⟩
      case round =>
        clear HB X HO
        obtain ⟨t, ht, rfl, HO, HB, X⟩ := hrel
        have k0 := box_cell X.out 0 _ rfl; have k1 := box_cell X.out 1 _ rfl
        by_cases hlt : t < n
        · have HS : Hid (costsTo ys D1 (t + 1) = ys.foldl costEdge (costsTo ys D1 t)) := Lib.hid rfl
          have HLT := Lib.hid (HLN.out t)
          have HBE := Lib.hid (HBD.out t)
          generalize costsTo ys D1 t = E at *
          go_wp2_with fail
          go_loopw [7] (fun i wv => ∃ k : Nat, k ≤ l ∧ i = .int .i64 k ∧ Hid (wv.ownsRow b9 3 1 (.slice (some ⟨b9, 0, none⟩) n c9) n (ints ((ys.take k).foldl costEdge E))) ∧ Hid (Below w.heap.size w wv) ∧ Hid (wv.heap[w.heap.size]? = some (.cells #[.int .i64 n, .slice p l c] 25 (0, 0)))) (fun i _ => l - (intOf i).toNat)
          case atStart => exact ⟨0, Nat.zero_le _, rfl, HO, HB, X⟩
          case round =>
            clear HO HB X k0 k1
            obtain ⟨k, hk, rfl, HO, HB, X⟩ := hrel
            have k0 := box_cell X.out 0 _ rfl; have k1 := box_cell X.out 1 _ rfl
            by_cases hkl : k < l
            · obtain ⟨b1, o1, rfl, hb1, c0, c1, c2⟩ := (HR.out.keep HB.out).tri hkl
              obtain ⟨a, b, ha, hb, han, hbn, -⟩ := HED.out k hkl
              have hwt := HWT.out k hkl
              have hbd := HBE.out k hk a
              have HFS : Hid ((ys.take (k + 1)).foldl costEdge E = costEdge ((ys.take k).foldl costEdge E) (ys.getD k triZ)) := Lib.hid (by rw [triTake_snoc ys k (by rw [HL.out]; exact hkl), List.foldl_append]; rfl)
              have HFL : Hid (((ys.take k).foldl costEdge E).length = n) := Lib.hid (by rw [costFold_len, HLT.out])
              generalize (ys.take k).foldl costEdge E = F at *
              generalize ys.getD k triZ = e at *
              obtain ⟨e0, e1, e2⟩ := e
              simp only at ha hb c0 c1 c2 hwt
              subst ha; subst hb
              have HFS2 : Hid (costEdge F ((a : Int), (b : Int), e2) = if 0 ≤ F.getD a 0 ∧ (F.getD b 0 < 0 ∨ F.getD a 0 + e2 < F.getD b 0) then F.set b (F.getD a 0 + e2) else F) := Lib.hid (by unfold costEdge; simp only [Int.toNat_natCast])
              rw [HFS2.out] at HFS
              clear HFS2
              have hal : Below wr.heap.size wr (wr.alloc (.cells #[.int .i64 (a : Int), .int .i64 (b : Int), .int .i64 e2] 34)) := (Below.refl _ _).alloc (Nat.le_refl _) _
              replace HB := Lib.hid (HB.out.tr hal); replace X := Lib.hid (box_keep X.out hal); replace HO := Lib.hid (ownsRow_keep HO.out hal)
              have BE := Lib.hid (heap_alloc_new wr (.cells #[.int .i64 (a : Int), .int .i64 (b : Int), .int .i64 e2] 34))
              have hpe : wr.heap.size < (wr.alloc (.cells #[.int .i64 (a : Int), .int .i64 (b : Int), .int .i64 e2] 34)).heap.size := by simp
              obtain ⟨pe, hpe2⟩ : ∃ pe, pe = wr.heap.size := ⟨_, rfl⟩
              clear hal
              go_wp2_with fail
              rw [← hpe2] at BE hpe ⊢
              generalize (wr.alloc (.cells #[.int .i64 (a : Int), .int .i64 (b : Int), .int .i64 e2] 34)) = wa at *
              clear hpe2 k0 k1 c0 c1 c2
              have ca : wa.cell? ⟨b9, a, none⟩ = some (.int .i64 (F.getD a 0)) := by rw [HO.out.cellAt a (by omega)]; exact ints_get F a (by rw [HFL.out]; exact han)
              have cb : wa.cell? ⟨b9, b, none⟩ = some (.int .i64 (F.getD b 0)) := by rw [HO.out.cellAt b (by omega)]; exact ints_get F b (by rw [HFL.out]; exact hbn)
              have y0 := box_cell BE.out 0 _ rfl; have y2 := box_cell BE.out 2 _ rfl
              have hb9l2 := (HO.out.lt b9 rfl).2
              have g0 := fun p => GrownW.cell (B := wa.heap.size) ca hb9l2 p
              have g1 := fun p => GrownW.cell (B := wa.heap.size) y0 hpe p
              have g2 := fun p => GrownW.cell (B := wa.heap.size) y2 hpe p
              have hsum : IntKind.i64.wrap (F.getD a 0 + e2) = F.getD a 0 + e2 := IntWalk.i64_in _ (by omega)
              generalize hfa : F.getD a 0 = fa at *
              generalize hfb : F.getD b 0 = fb at *
              clear ca y0 y2
              refine wp_region_grown wa.heap.size (by kernel_rfl) (by kernel_rfl) ?_
              repeat (go_big_quiet_step (fail))
              refine wpQuiet_done ?_
              intro wb hbb
              clear g0 g1 g2
              replace HB := Lib.hid (HB.out.tr hbb); replace X := Lib.hid (box_keep X.out hbb); replace HO := Lib.hid (ownsRow_keep HO.out hbb); replace BE := Lib.hid (box_keep BE.out hbb)
              have ca : wb.cell? ⟨b9, a, none⟩ = some (.int .i64 fa) := by rw [HO.out.cellAt a (by omega), ← hfa]; exact ints_get F a (by rw [HFL.out]; exact han)
              replace cb : wb.cell? ⟨b9, b, none⟩ = some (.int .i64 fb) := by rw [HO.out.cellAt b (by omega), ← hfb]; exact ints_get F b (by rw [HFL.out]; exact hbn)
              have y0 := box_cell BE.out 0 _ rfl; have y1 := box_cell BE.out 1 _ rfl
              have fz := HO.out.frozenAt b
              have hst := HO.out.stored b (.int .i64 (fa + e2))
              rw [ints_set] at hst
              clear hbb hfa hfb hsum
              by_cases hq1 : 0 ≤ fa
              · have t1 : decide (fa ≥ 0) = true := by simpa using hq1
                by_cases hq2 : fb < 0 ∨ fa + e2 < fb
                · have HF2 := Lib.hid (HFS.out.trans (if_pos ⟨hq1, hq2⟩))
                  clear HFS
                  have hc4 := Chg.of_grown hst.2
                  have HB9 := Lib.hid (hc4.below HB.out (Nat.le_of_lt hbx))
                  have X9 := Lib.hid ((hc4.block _ (box_lt X.out) (.inl hbx)).trans X.out)
                  have HO9 := Lib.hid hst.1
                  rw [← HF2.out] at HO9
                  clear hst hc4 HF2
                  by_cases hq3 : fb < 0
                  · have t2 : decide (fb < 0) = true := decide_eq_true hq3
                    clear hq2 hq3
                    go_wp2_with fail
                    go_roundw
                    case rel => exact ⟨k + 1, by omega, by go_num, HO9, HB9, X9⟩
                    case measure => simp [intOf]; omega
                  · have t2 : decide (fb < 0) = false := decide_eq_false hq3
                    have t3 : decide (fa + e2 < fb) = true := decide_eq_true (by omega)
                    clear hq2 hq3
                    go_wp2_with fail
                    go_roundw
                    case rel => exact ⟨k + 1, by omega, by go_num, HO9, HB9, X9⟩
                    case measure => simp [intOf]; omega
                · have HF2 := Lib.hid (HFS.out.trans (if_neg fun h => hq2 h.2))
                  have t2 : decide (fb < 0) = false := decide_eq_false fun h => hq2 (.inl h)
                  have t3 : decide (fa + e2 < fb) = false := decide_eq_false fun h => hq2 (.inr h)
                  rw [← HF2.out] at HO
                  clear hst hq2 HFS HF2
                  go_wp2_with fail
                  go_roundw
                  case rel => exact ⟨k + 1, by omega, by go_num, HO, HB, X⟩
                  case measure => simp [intOf]; omega
              · have HF2 := Lib.hid (HFS.out.trans (if_neg fun h => hq1 h.1))
                have t1 : decide (fa ≥ 0) = false := by simp; omega
                rw [← HF2.out] at HO
                clear hst HFS HF2
                go_wp2_with fail
                go_roundw
                case rel => exact ⟨k + 1, by omega, by go_num, HO, HB, X⟩
                case measure => simp [intOf]; omega
            · obtain rfl : k = l := by omega
              have HF9 : Hid ((ys.take k).foldl costEdge E = costsTo ys D1 (t + 1)) := Lib.hid (by rw [HS.out, List.take_of_length_le (by rw [HL.out]; exact Nat.le_refl _)])
              rw [HF9.out] at HO
              go_wp2_with fail
              go_roundw
              case rel => exact ⟨t + 1, by omega, by go_num, HO, HB, X⟩
              case measure => simp [intOf]; omega
        · obtain rfl : t = n := by omega
          have HO9 := Lib.hid ((Ow.of_row HO.out).mono (Nat.le_of_lt hbx) (Nat.le_refl _))
          go_wp2_with fail
          go_ret
          exact ⟨_, rfl, by rw [HLN.out]; exact HO9.out, HB.out⟩
    · have CI := Lib.hid fun wx => l1In_is v 0 (m - 1) wx false (by simp; omega)
      rw [HOUT.out hv]
      clear hv HOUT hgo hok HNO HYES
      generalize hl : ys.length = l at *
      clear hl
      have k0 := box_cell X.out 0 _ rfl; have k1 := box_cell X.out 1 _ rfl
      go_enter Tryd.func7, Tryd.ntmps7
      go_wp2_with fail
      refine (HV.out _ HB.out).mono ?_
      rintro e w1 ⟨rfl, hb⟩
      replace HB := Lib.hid (HB.out.tr hb); replace X := Lib.hid (box_keep X.out hb); clear hb HV k0 k1
      have k0 := box_cell X.out 0 _ rfl; have k1 := box_cell X.out 1 _ rfl
      go_wp2_with fail
      refine (CI.out _).mono ?_
      rintro e w2 ⟨rfl, rfl⟩
      go_wp2_with fail
      go_ret
      exact ⟨_, rfl, Ow.nil _ _ _ _ _ _, HB.out.alloc HB.out.size _⟩
end Go.Proofs.YtgdggkhdollieaaDoor
