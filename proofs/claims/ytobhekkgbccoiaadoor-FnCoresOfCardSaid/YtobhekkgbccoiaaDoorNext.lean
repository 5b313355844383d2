/-
  Where edges lead to: the program's function and the reference's; the program's NearOf.
-/
import Derived.Test.YtobhekkgbccoiaaDoorDegrees
import Derived.Test.YtobhekkgbccoiaaDoorTab
namespace Go.Proofs.YtobhekkgbccoiaaDoor
open Go.RowKit
set_option linter.unusedVariables false

/-! Lists in order. -/
theorem eq_of_sorted : ∀ {xs ys : List Int}, xs.Pairwise (· < ·) → ys.Pairwise (· < ·) → (∀ z, z ∈ xs ↔ z ∈ ys) → xs = ys
  | [], [], _, _, _ => rfl
  | [], y :: ys, _, _, h => by have := (h y).2 (by simp); simp at this
  | x :: xs, [], _, _, h => by have := (h x).1 (by simp); simp at this
  | x :: xs, y :: ys, h1, h2, h => by
    rw [List.pairwise_cons] at h1 h2
    have hxy : x = y := by
      have a := (h x).1 (by simp)
      have b := (h y).2 (by simp)
      rw [List.mem_cons] at a b
      rcases a with a | a
      · exact a
      · rcases b with b | b
        · exact b.symm
        · have := h2.1 x a; have := h1.1 y b; omega
    subst hxy
    congr 1
    refine eq_of_sorted h1.2 h2.2 fun z => ?_
    constructor
    · intro hz
      have := (h z).1 (List.mem_cons_of_mem _ hz)
      rw [List.mem_cons] at this
      rcases this with rfl | h3
      · have := h1.1 z hz; omega
      · exact h3
    · intro hz
      have := (h z).2 (List.mem_cons_of_mem _ hz)
      rw [List.mem_cons] at this
      rcases this with rfl | h3
      · have := h2.1 z hz; omega
      · exact h3
theorem Bef.trans {a b c : Tri} (h : Bef a b) (k : Bef b c) : Bef a c := by unfold Bef at *; omega
theorem pairwise_bef : ∀ {ys : List Tri}, (∀ k, k + 1 < ys.length → Bef (ys.getD k triZ) (ys.getD (k + 1) triZ)) → ys.Pairwise Bef
  | [], _ => List.Pairwise.nil
  | y :: ys, h => by
    have ih := pairwise_bef (ys := ys) fun k hk => by simpa using h (k + 1) (by simpa using hk)
    refine List.Pairwise.cons (fun z hz => ?_) ih
    have all : ∀ i, i < ys.length → Bef y (ys.getD i triZ) := by
      intro i
      induction i with
      | zero => intro hi; simpa using h 0 (by simpa using hi)
      | succ i ih2 =>
        intro hi
        exact (ih2 (by omega)).trans (by simpa using h (i + 1) (by simpa using hi))
    obtain ⟨i, hi, rfl⟩ := List.mem_iff_getElem.1 hz
    have := all i hi
    simpa [hi] using this
theorem GraphOk.sorted {g : GraphD} (h : GraphOk g) : g.2.Pairwise Bef := pairwise_bef fun k hk => by
  have := (h.2.2 (k + 1) hk).2.2.2.2 (by omega)
  simpa using this
theorem range_sorted (n : Nat) (f : Nat → Bool) : (((List.range n).filter f).map fun (u : Nat) => (u : Int)).Pairwise (· < ·) := by
  rw [List.pairwise_map]
  refine (List.Pairwise.filter f List.pairwise_lt_range).imp fun h => ?_
  omega

def nextTo (ys : List Tri) (v : Int) (k : Nat) : List Int := ((ys.take k).filter fun e => decide (e.1 = v)).map fun e => e.2.1
def nextOf (g : GraphD) (v : Int) : List Int := if graphOk g = true then nextTo g.2 v g.2.length else []
theorem nextTo_yes (ys : List Tri) (v : Int) (k : Nat) (hk : k < ys.length) (h : (ys.getD k triZ).1 = v) : nextTo ys v (k + 1) = nextTo ys v k ++ [(ys.getD k triZ).2.1] := by
  unfold nextTo
  rw [triTake_snoc ys k hk, List.filter_append, List.map_append, List.filter_cons, if_pos (by simpa using h)]
  rfl
theorem nextTo_no (ys : List Tri) (v : Int) (k : Nat) (hk : k < ys.length) (h : ¬ (ys.getD k triZ).1 = v) : nextTo ys v (k + 1) = nextTo ys v k := by
  unfold nextTo
  rw [triTake_snoc ys k hk, List.filter_append, List.map_append, List.filter_cons, if_neg (by simpa using h)]
  simp
theorem nextTo_length (ys : List Tri) (v : Int) (k : Nat) : (nextTo ys v k).length ≤ k := by
  unfold nextTo; rw [List.length_map]
  exact Nat.le_trans (List.length_filter_le _ _) (by rw [List.length_take]; omega)
theorem nextOf_length (g : GraphD) (v : Int) : (nextOf g v).length ≤ 40 := by
  unfold nextOf; split
  · rename_i h
    have h1 := nextTo_length g.2 v g.2.length
    have h2 := (graphOk_yes h).2.1
    omega
  · simp
theorem nextTo_sorted {g : GraphD} (hok : GraphOk g) (v : Int) : (nextTo g.2 v g.2.length).Pairwise (· < ·) := by
  unfold nextTo
  rw [List.take_of_length_le (Nat.le_refl _), List.pairwise_map]
  have h := List.Pairwise.filter (fun e : Tri => decide (e.1 = v)) hok.sorted
  refine List.Pairwise.imp_of_mem (fun {a b} ha hb hab => ?_) h
  have h1 := (List.mem_filter.1 ha).2; have h2 := (List.mem_filter.1 hb).2
  simp at h1 h2
  unfold Bef at hab
  omega
theorem nextOf_out {g : GraphD} (v : Int) (h : ¬ (0 ≤ v ∧ v < g.1)) : nextOf g v = [] := by
  unfold nextOf
  split
  · rename_i hok
    unfold nextTo
    rw [List.map_eq_nil_iff, List.filter_eq_nil_iff]
    intro e he
    have := ends_lt (graphOk_yes hok) (List.mem_of_mem_take he)
    simp; omega
  · rfl
theorem nearOf_out {g : GraphD} (v : Int) (h : ¬ (0 ≤ v ∧ v < g.1)) : nearOf g v = [] := by
  unfold nearOf
  split
  · rename_i hok
    unfold nearTo
    rw [List.map_eq_nil_iff, List.filter_eq_nil_iff]
    intro u _
    unfold nearQ
    rw [Bool.not_eq_true, List.any_eq_false]
    intro e he
    have := ends_lt (graphOk_yes hok) he
    simp; omega
  · rfl
/-- The set of those to which edges lead, as a list. -/
theorem next_bits {g : GraphD} (hok : GraphOk g) {M : List Nat} (hM : MaskOK (nextP g.2) g.1.toNat M) {v : Nat} (hv : v < g.1.toNat) : (bitsOf (M.getD v 0)).map (fun (u : Nat) => (u : Int)) = nextOf g (v : Int) := by
  have hn : g.1.toNat ≤ 16 := by have := hok.1; omega
  rw [bits_range (n := g.1.toNat) (by omega) (hM.2 v hv).2 fun i hi => nextP_big hok v i hi]
  unfold nextOf
  rw [if_pos (show graphOk g = true from decide_eq_true hok)]
  refine eq_of_sorted (range_sorted _ _) (nextTo_sorted hok _) fun z => ?_
  unfold nextTo
  rw [List.take_of_length_le (Nat.le_refl _)]
  simp only [List.mem_map, List.mem_filter, List.mem_range, nextP, List.any_eq_true, Bool.and_eq_true, decide_eq_true_eq]
  constructor
  · rintro ⟨u, ⟨hu, e, he, h1, h2⟩, rfl⟩
    exact ⟨e, ⟨he, h1⟩, h2⟩
  · rintro ⟨e, ⟨he, h1⟩, h2⟩
    have := ends_lt hok he
    exact ⟨e.2.1.toNat, ⟨by omega, e, he, h1, by omega⟩, by omega⟩


set_option maxRecDepth 100000 in
set_option maxHeartbeats 4000000 in
theorem implNearOf_any (w : World) (va : Value) (g : GraphD) (v : Int) (h : RdGraph w va g) (HT : TabW w) : Calls Tryd.prog 28 #[va, .int .i64 v] w (RetI w (nearOf g v)) := by
  have HTB := Lib.hid HT; clear HT
  have HRG := Lib.hid h
  obtain ⟨p, c, rfl, hr, hc, hmx⟩ := h.form
  clear h hr
  have HOUT := Lib.hid fun hx => nearOf_out (g := g) v hx
  have HBT := Lib.hid fun hgo M hM u hu => near_bits (g := g) hgo (M := M) hM (v := u) hu
  have HNO : Hid (graphOk g = false → nearOf g v = []) := Lib.hid fun hx => by unfold nearOf; rw [hx]; rfl
  obtain ⟨m, ys⟩ := g
  simp only at hc HOUT HBT HNO ⊢
  have HB : Hid (Below w.heap.size w (w.alloc (.cells #[.int .i64 m, .slice p ys.length c] 30))) := Lib.hid (by go_grown)
  have X := Lib.hid (heap_alloc_new w (.cells #[.int .i64 m, .slice p ys.length c] 30))
  have HV := Lib.hid fun wx (hb : Below w.heap.size w wx) => implGraphValid_any wx _ _ (HRG.out.keep hb)
  cases hok : graphOk (m, ys)
  · rw [hok] at HV
    rw [HNO.out hok]
    go_enter Tryd.func28, Tryd.ntmps28
    go_wp2_with fail
    refine (HV.out _ HB.out).mono ?_
    rintro e w1 ⟨rfl, hb⟩
    replace HB := Lib.hid (HB.out.tr hb); clear hb
    go_wp2_with fail
    go_ret
    exact ⟨_, rfl, Ow.nil _ _ _ _ _ _, HB.out⟩
  · rw [hok] at HV
    have hgo := graphOk_yes hok
    clear hok HNO
    by_cases hv : 0 ≤ v ∧ v < m
    · have E1 := Lib.hid (decide_eq_true hv)
      have HMS := Lib.hid fun wx (hb : Below w.heap.size w wx) => nearMasks_any wx _ _ (HRG.out.keep hb) hgo
      replace HBT := Lib.hid (HBT.out hgo)
      have hm := hgo.1
      simp only at hm HMS
      obtain ⟨n, rfl⟩ := Int.eq_ofNat_of_zero_le hm.1
      obtain ⟨u, rfl⟩ := Int.eq_ofNat_of_zero_le hv.1
      rw [Int.toNat_natCast] at HMS HBT
      have hun : u < n := by omega
      clear hgo HOUT hv
      generalize hl : ys.length = l at *
      clear hl
      have k0 := box_cell X.out 0 _ rfl; have k1 := box_cell X.out 1 _ rfl
      go_enter Tryd.func28, Tryd.ntmps28
      go_wp2_with fail
      refine (HV.out _ HB.out).mono ?_
      rintro e w1 ⟨rfl, hb⟩
      replace HB := Lib.hid (HB.out.tr hb); replace X := Lib.hid (box_keep X.out hb); clear hb HV k0 k1
      have k0 := box_cell X.out 0 _ rfl; have k1 := box_cell X.out 1 _ rfl
      go_wp2_with fail
      refine (has_any _ _ _ _ _ _).mono ?_
      rw [E1.out]
      rintro e w2 ⟨rfl, hw2⟩
      have hb : Below w1.heap.size w1 w2 := by rw [hw2]; exact (Below.refl _ _).alloc (Nat.le_refl _) _
      replace HB := Lib.hid (HB.out.tr hb); replace X := Lib.hid (box_keep X.out hb); clear hb hw2 k0 k1
      have k0 := box_cell X.out 0 _ rfl; have k1 := box_cell X.out 1 _ rfl
      go_wp2_with fail
      refine (HMS.out _ HB.out).mono ?_
      rintro e w3 ⟨b, M, rfl, hbb, ho, hM, hb⟩
      replace HB := Lib.hid (HB.out.tr hb); clear hb X k0 k1
      have hml : M.length = n := hM.1
      have hgl := (hM.2 u hun).1
      have HE := Lib.hid (HBT.out M hM u hun)
      have c0 : w3.cell? ⟨b, u, none⟩ = some (.int .u32 ((M.getD u 0 : Nat) : Int)) := by rw [ho.cellAt u (by omega)]; exact mks_get M u (by omega)
      have CL := Lib.hid (list_any (M.getD u 0) hgl w3 (HTB.out.keep HB.out))
      generalize M.getD u 0 = mv at *
      rw [HE.out] at CL
      clear HE HBT hM ho HMS
      go_wp2_with fail
      refine CL.out.mono ?_
      rintro e w4 ⟨s, rfl, hs, hb⟩
      have HS := Lib.hid (hs.mono (show w.heap.size ≤ w3.heap.size from HB.out.size) (Nat.le_refl _))
      replace HB := Lib.hid (HB.out.tr hb); clear hs hb CL
      go_wp2_with fail
      go_ret
      exact ⟨_, rfl, HS.out, HB.out⟩
    · have E1 := Lib.hid (decide_eq_false hv)
      rw [HOUT.out hv]
      clear hv HOUT HBT hgo
      generalize hl : ys.length = l at *
      clear hl
      have k0 := box_cell X.out 0 _ rfl; have k1 := box_cell X.out 1 _ rfl
      go_enter Tryd.func28, Tryd.ntmps28
      go_wp2_with fail
      refine (HV.out _ HB.out).mono ?_
      rintro e w1 ⟨rfl, hb⟩
      replace HB := Lib.hid (HB.out.tr hb); replace X := Lib.hid (box_keep X.out hb); clear hb HV k0 k1
      have k0 := box_cell X.out 0 _ rfl; have k1 := box_cell X.out 1 _ rfl
      go_wp2_with fail
      refine (has_any _ _ _ _ _ _).mono ?_
      rw [E1.out]
      rintro e w2 ⟨rfl, hw2⟩
      have hb : Below w1.heap.size w1 w2 := by rw [hw2]; exact (Below.refl _ _).alloc (Nat.le_refl _) _
      replace HB := Lib.hid (HB.out.tr hb); clear hb hw2 k0 k1
      go_wp2_with fail
      go_ret
      exact ⟨_, rfl, Ow.nil _ _ _ _ _ _, HB.out⟩
end Go.Proofs.YtobhekkgbccoiaaDoor
