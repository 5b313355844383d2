/-
  The triangles in which every vertex is the greatest: the program's function and the reference's.
-/
import Derived.Test.YtobhekkgbccoiaaDoorNext
import Derived.Test.YtobhekkgbccoiaaDoorSums
import Derived.Test.YtobhekkgbccoiaaDoorRel
namespace Go.Proofs.YtobhekkgbccoiaaDoor
open Go.RowKit
set_option linter.unusedVariables false

/-! The law. -/
theorem mem_near {g : GraphD} (a : Int) (z : Int) : z ∈ nearOf g a ↔ graphOk g = true ∧ ∃ u : Nat, u < g.1.toNat ∧ nearQ g.2 a u = true ∧ z = (u : Int) := by
  unfold nearOf
  split
  · rename_i h
    simp only [nearTo, List.mem_map, List.mem_filter, List.mem_range, h, true_and]
    constructor
    · rintro ⟨u, ⟨h1, h2⟩, rfl⟩; exact ⟨u, h1, h2, rfl⟩
    · rintro ⟨u, h1, h2, rfl⟩; exact ⟨u, ⟨h1, h2⟩, rfl⟩
  · rename_i h; simp [h]
theorem near_range {g : GraphD} {a z : Int} (h : z ∈ nearOf g a) : 0 ≤ z ∧ z < g.1 := by
  obtain ⟨hg, u, hu, -, rfl⟩ := (mem_near a z).1 h
  have := (graphOk_yes hg).1
  omega
theorem nearQ_symm (ys : List Tri) (a b : Nat) : nearQ ys (a : Int) b = nearQ ys (b : Int) a := by
  unfold nearQ
  congr 1
  funext e
  cases decide (e.1 = (a : Int)) <;> cases decide (e.2.1 = (b : Int)) <;> cases decide (e.1 = (b : Int)) <;> cases decide (e.2.1 = (a : Int)) <;> rfl
theorem near_symm {g : GraphD} {a z : Int} (ha : 0 ≤ a ∧ a < g.1) (h : z ∈ nearOf g a) : a ∈ nearOf g z := by
  obtain ⟨hg, u, hu, hq, rfl⟩ := (mem_near a z).1 h
  obtain ⟨n, rfl⟩ := Int.eq_ofNat_of_zero_le ha.1
  exact (mem_near _ _).2 ⟨hg, n, by omega, by rw [nearQ_symm]; exact hq, rfl⟩
theorem near_sorted (g : GraphD) (a : Int) : (nearOf g a).Pairwise (· < ·) := by
  unfold nearOf
  split
  · exact range_sorted _ _
  · exact List.Pairwise.nil
/-- As the reference counts them. -/
def triR (g : GraphD) (v : Int) : List Int → Nat
  | [] => 0
  | a :: r => r.countP (fun b => decide (b < v) && decide (b ∈ nearOf g a)) + triR g v r
/-- As the program counts them. -/
def triL (g : GraphD) (M : List Int) (l : List Int) : Nat := (l.map fun b => M.countP fun c => decide (c < b) && decide (c ∈ nearOf g b)).sum
def triAt (g : GraphD) (v : Nat) : Nat := triR g (v : Int) (nearOf g (v : Int))
theorem triR_le (g : GraphD) (v : Int) : ∀ l : List Int, triR g v l ≤ l.length * l.length
  | [] => Nat.zero_le _
  | a :: r => by
    have h1 := triR_le g v r
    have h2 : r.countP (fun b => decide (b < v) && decide (b ∈ nearOf g a)) ≤ r.length := List.countP_le_length
    simp only [triR, List.length_cons, Nat.add_mul, Nat.mul_add]; omega
theorem triAt_le (g : GraphD) (v : Nat) : triAt g v ≤ 256 := by
  have h1 := triR_le g (v : Int) (nearOf g (v : Int))
  have h2 := Nat.mul_le_mul (nearOf_length g (v : Int)) (nearOf_length g (v : Int))
  unfold triAt; omega
theorem triR_small (g : GraphD) (v : Int) : ∀ l : List Int, l.Pairwise (· < ·) → triR g v l = triR g v (l.filter fun b => decide (b < v))
  | [], _ => rfl
  | a :: r, h => by
    rw [List.pairwise_cons] at h
    have ih := triR_small g v r h.2
    by_cases ha : a < v
    · rw [List.filter_cons, if_pos (by simpa using ha)]
      simp only [triR, ← ih, List.countP_filter]
      congr 2
      funext b
      cases decide (b < v) <;> cases decide (b ∈ nearOf g a) <;> rfl
    · rw [List.filter_cons, if_neg (by simpa using ha)]
      simp only [triR, ← ih]
      have : r.countP (fun b => decide (b < v) && decide (b ∈ nearOf g a)) = 0 := by
        rw [List.countP_eq_zero]
        intro b hb
        have := h.1 b hb
        simp; omega
      omega
theorem sum_ticks {α : Type} (f : α → Bool) (k : α → Nat) : ∀ l : List α, (l.map fun b => tick (f b) + k b).sum = l.countP f + (l.map k).sum
  | [] => rfl
  | a :: r => by
    have := sum_ticks f k r
    simp only [List.map_cons, List.sum_cons, List.countP_cons]
    unfold tick at *
    omega
theorem countP_congr' {α : Type} {p q : α → Bool} {l : List α} (h : ∀ x ∈ l, p x = q x) : l.countP p = l.countP q := List.countP_congr (fun x hx => by rw [h x hx])
theorem triR_triL (g : GraphD) (v : Int) : ∀ M : List Int, M.Pairwise (· < ·) → (∀ z ∈ M, (0 ≤ z ∧ z < g.1) ∧ z < v) → triR g v M = triL g M M
  | [], _, _ => rfl
  | a :: r, h, hr => by
    rw [List.pairwise_cons] at h
    have ih := triR_triL g v r h.2 fun z hz => hr z (List.mem_cons_of_mem _ hz)
    have e1 : (a :: r).countP (fun c => decide (c < a) && decide (c ∈ nearOf g a)) = 0 := by
      rw [List.countP_eq_zero]
      intro c hc
      rw [List.mem_cons] at hc
      rcases hc with rfl | hc
      · simp
      · have := h.1 c hc; simp; omega
    have e2 : (r.map fun b => (a :: r).countP fun c => decide (c < b) && decide (c ∈ nearOf g b)) = r.map fun b => tick (decide (a ∈ nearOf g b)) + r.countP fun c => decide (c < b) && decide (c ∈ nearOf g b) := by
      refine List.map_congr_left fun b hb => ?_
      rw [List.countP_cons]
      have := h.1 b hb
      rw [Nat.add_comm]
      congr 1
      simp [tick, this]
    simp only [triL, List.map_cons, List.sum_cons, e1, e2, sum_ticks, Nat.zero_add, triR]
    rw [ih, triL]
    congr 1
    refine countP_congr' fun b hb => ?_
    have hb2 := hr b (List.mem_cons_of_mem _ hb)
    have ha2 := hr a (by simp)
    have : (b ∈ nearOf g a) ↔ (a ∈ nearOf g b) := ⟨near_symm ha2.1, near_symm hb2.1⟩
    simp [this, hb2.2]
theorem tri_same (g : GraphD) (v : Nat) : triAt g v = triL g ((nearOf g (v : Int)).filter fun b => decide (b < (v : Int))) ((nearOf g (v : Int)).filter fun b => decide (b < (v : Int))) := by
  unfold triAt
  rw [triR_small g _ _ (near_sorted g _)]
  refine triR_triL g _ _ ((near_sorted g _).filter _) fun z hz => ?_
  have := List.mem_filter.1 hz
  exact ⟨near_range this.1, by simpa using this.2⟩
def triTo (g : GraphD) (t : Nat) : List Int := (List.range t).map fun (v : Nat) => ((triAt g v : Nat) : Int)
def trianglesAt (g : GraphD) : List Int := if graphOk g = true then triTo g g.1.toNat else []
theorem triTo_succ (g : GraphD) (t : Nat) : triTo g (t + 1) = triTo g t ++ [((triAt g t : Nat) : Int)] := by simp [triTo, List.range_succ]
theorem triTo_length (g : GraphD) (t : Nat) : (triTo g t).length = t := by simp [triTo]
theorem trianglesAt_length (g : GraphD) : (trianglesAt g).length ≤ 16 := by
  unfold trianglesAt; split
  · rename_i h
    have h2 := (graphOk_yes h).1
    rw [triTo_length]; omega
  · simp
theorem drop_get {α : Type} (l : List α) (k : Nat) (d : α) (h : k < l.length) : l.drop k = l.getD k d :: l.drop (k + 1) := by
  rw [List.drop_eq_getElem_cons h]; congr 1; simp [h]
theorem triR_drop (g : GraphD) (v : Int) (N : List Int) (i : Nat) (h : i < N.length) : triR g v (N.drop i) = (N.drop (i + 1)).countP (fun b => decide (b < v) && decide (b ∈ nearOf g (N.getD i 0))) + triR g v (N.drop (i + 1)) := by
  rw [drop_get N i 0 h]; rfl
theorem count_drop (p : Int → Bool) (N : List Int) (j : Nat) (h : j < N.length) : (N.drop j).countP p = tick (p (N.getD j 0)) + (N.drop (j + 1)).countP p := by
  rw [drop_get N j 0 h, List.countP_cons, Nat.add_comm]; rfl
theorem count_over (N : List Int) (hN : N.Pairwise (· < ·)) (v : Int) (q : Int → Bool) (j : Nat) (h : j < N.length) (hv : ¬ N.getD j 0 < v) : (N.drop j).countP (fun b => decide (b < v) && q b) = 0 := by
  rw [List.countP_eq_zero]
  have h1 : (N.drop j).Pairwise (· < ·) := hN.drop
  rw [drop_get N j 0 h, List.pairwise_cons] at h1
  rw [drop_get N j 0 h]
  intro b hb
  rw [List.mem_cons] at hb
  rcases hb with rfl | hb
  · simp at hv ⊢; omega
  · have := h1.1 b hb
    simp; omega

set_option maxRecDepth 100000 in
theorem l7Has_any (w : World) (s : Value) (L : List Int) (z : Int) (h : Rd w 1 s L.length (ints L)) : Calls Tryd.prog 57 #[s, .int .i64 z] w fun e w' => e = .returned (.bool (decide (z ∈ L))) ∧ w = w' := by
  obtain ⟨a, c, rfl, hc, hm, hcell⟩ := h.int
  obtain ⟨b, hb⟩ : ∃ b, decide (z ∈ L) = b := ⟨_, rfl⟩
  rw [hb]
  have HBV := Lib.hid hb; clear hb
  generalize hl : L.length = l at *
  have HL := Lib.hid hl; clear hl
  go_enter Tryd.func57, Tryd.ntmps57
  go_wp2_with fail
  go_loopw [5] (fun i wr => wr = w ∧ ∃ k : Nat, k ≤ l ∧ i = .int .i64 k ∧ Hid (∀ j, j < k → L.getD j 0 ≠ z)) (fun i _ => l - (intOf i).toNat)
  case atStart => exact ⟨rfl, 0, Nat.zero_le _, rfl, Lib.hid fun j hj => by omega⟩
  case round =>
    obtain ⟨rfl, k, hk, rfl, HN⟩ := hrel
    by_cases hlt : k < l
    · obtain ⟨b1, o1, rfl, -, c0⟩ := hcell.out k hlt
      by_cases hz : L.getD k 0 = z
      · have hbt : b = true := by
          rw [← HBV.out]
          refine decide_eq_true ?_
          rw [← hz]
          have : k < L.length := by rw [HL.out]; exact hlt
          simp [this]
        subst hbt
        generalize L.getD k 0 = x at *
        have e : (x == z) = true := by simpa using hz
        clear hz
        go_wp2_with fail
        go_ret
        exact ⟨rfl, rfl⟩
      · have HN2 : Hid (∀ j, j < k + 1 → L.getD j 0 ≠ z) := Lib.hid fun j hj => by
          by_cases hjk : j = k
          · subst hjk; exact hz
          · exact HN.out j (by omega)
        generalize L.getD k 0 = x at *
        have e : (x == z) = false := by simpa using hz
        clear hz
        go_wp2_with fail
        go_roundw
        case rel => exact ⟨trivial, k + 1, by omega, by go_num, HN2⟩
        case measure => simp [intOf]; omega
    · obtain rfl : k = l := by omega
      have hbf : b = false := by
        rw [← HBV.out]
        refine decide_eq_false fun hm => ?_
        obtain ⟨j, hj, he⟩ := List.mem_iff_getElem.1 hm
        refine HN.out j (by rw [← HL.out]; exact hj) ?_
        simp [hj, he]
      subst hbf
      go_wp2_with fail
      go_ret
      exact ⟨rfl, rfl⟩

set_option maxRecDepth 100000 in
set_option maxHeartbeats 8000000 in
theorem specTrianglesAt_any (w : World) (va : Value) (g : GraphD) (h : RdGraph w va g) : Calls Tryd.prog 27 #[va] w (RetI w (trianglesAt g)) := by
  have HRG := Lib.hid h
  obtain ⟨p, c, rfl, hr, hc, hmx⟩ := h.form
  clear h hr
  obtain ⟨m, ys⟩ := g
  simp only at hc ⊢
  have HB : Hid (Below w.heap.size w ((w.alloc (.cells #[.int .i64 m, .slice p ys.length c] 30)).alloc (.cells #[] 3))) := Lib.hid (by go_grown)
  have X := Lib.hid (box_alloc (heap_alloc_new w (.cells #[.int .i64 m, .slice p ys.length c] 30)) (.cells #[] 3))
  have HV := Lib.hid fun wx (hb : Below w.heap.size w wx) => specGraphValid_any wx _ _ (HRG.out.keep hb)
  have HNR := Lib.hid fun wx (v : Int) (hb : Below w.heap.size w wx) => specNearOf_any wx _ _ v (HRG.out.keep hb)
  have HO0 := Lib.hid (World.ownsRow_made (size := 1) (e := 3) (base := w.heap.size + 1) (w.alloc (.cells #[.int .i64 m, .slice p ys.length c] 30)) #[] 0 (by simp) (by decide) rfl)
  simp only [World.size_alloc] at HO0
  have HNL := Lib.hid (nearOf_length (m, ys))
  unfold trianglesAt
  simp only
  cases hok : graphOk (m, ys)
  · rw [hok] at HV
    simp only [Bool.false_eq_true, if_false]
    go_enter Tryd.func27, Tryd.ntmps27
    go_wp2_with fail
    generalize ((w.alloc (.cells #[.int .i64 m, .slice p ys.length c] 30)).alloc (.cells #[] 3)) = w0 at *
    refine wp_loop_rounds 1 ?_
    rw [rounds_succ]
    have k0 := box_cell X.out 0 _ rfl; have k1 := box_cell X.out 1 _ rfl
    by_cases h1 : 0 < m
    · go_wp2_with fail
      refine (HV.out _ HB.out).mono ?_
      rintro e w1 ⟨rfl, hb⟩
      replace HB := Lib.hid (HB.out.tr hb); clear hb k0 k1
      go_wp2_with fail
      go_ret
      exact ⟨_, rfl, Ow.nil _ _ _ _ _ _, HB.out⟩
    · go_wp2_with fail
      go_ret
      exact ⟨_, rfl, Ow.nil _ _ _ _ _ _, HB.out⟩
  · rw [hok] at HV
    simp only [if_true]
    have hm := (graphOk_yes hok).1
    simp only at hm
    obtain ⟨n, rfl⟩ := Int.eq_ofNat_of_zero_le hm.1
    rw [Int.toNat_natCast]
    clear hok
    have hn16 : n ≤ 16 := by omega
    clear hm
    generalize hl : ys.length = l at *
    clear hl
    go_enter Tryd.func27, Tryd.ntmps27
    go_wp2_with fail
    generalize ((w.alloc (.cells #[.int .i64 n, .slice p l c] 30)).alloc (.cells #[] 3)) = w0 at *
    go_loopw [3, 4] (fun r i wr => ∃ t : Nat, t ≤ n ∧ i = .int .i64 t ∧ Hid (wr.ownsRow (w.heap.size + 1) 3 1 r t (ints (triTo (n, ys) t))) ∧ Hid (Below w.heap.size w wr) ∧ Hid (wr.heap[w.heap.size]? = some (.cells #[.int .i64 n, .slice p l c] 30 (0, 0)))) (fun _ i _ => n - (intOf i).toNat)
    case atStart => exact ⟨0, Nat.zero_le _, rfl, HO0, HB, X⟩
    case round =>
      clear HB X HO0
      obtain ⟨t, ht, rfl, HO, HB, X⟩ := hrel
      have k0 := box_cell X.out 0 _ rfl; have k1 := box_cell X.out 1 _ rfl
      by_cases hlt : t < n
      · have HS := Lib.hid (triTo_succ (n, ys) t)
        generalize triTo (n, ys) t = D at *
        obtain ⟨a3, c3, rfl, -, -⟩ := Rd.form (Rd.of_own HO.out)
        have CN := Lib.hid (HNR.out · (t : Int))
        have HTA : Hid (0 + triR (n, ys) (t : Int) ((nearOf (n, ys) (t : Int)).drop 0) = triAt (n, ys) t) := Lib.hid (Nat.zero_add _)
        have hT := triAt_le (n, ys) t
        have HPW := Lib.hid (near_sorted (n, ys) (t : Int))
        have hnl := HNL.out (t : Int)
        generalize nearOf (n, ys) (t : Int) = N at *
        generalize triAt (n, ys) t = A at *
        go_wp2_with fail
        refine (HV.out _ HB.out).mono ?_
        rintro e w1 ⟨rfl, hb⟩
        replace HB := Lib.hid (HB.out.tr hb); replace X := Lib.hid (box_keep X.out hb); replace HO := Lib.hid (ownsRow_keep HO.out hb); clear hb k0 k1
        have k0 := box_cell X.out 0 _ rfl; have k1 := box_cell X.out 1 _ rfl
        go_wp2_with fail
        refine (CN.out _ HB.out).mono ?_
        rintro e w2 ⟨s, rfl, hs, hb⟩
        have HN := Lib.hid hs.rd
        obtain ⟨a2, c2, rfl, hc2, hm2⟩ := Rd.form hs.rd
        replace HB := Lib.hid (HB.out.tr hb); replace X := Lib.hid (box_keep X.out hb); replace HO := Lib.hid (ownsRow_keep HO.out hb); clear hb k0 k1 hs CN
        have HNc : Hid (∀ k, k < N.length → ∃ b off, a2 = some ⟨b, off, none⟩ ∧ b < w2.heap.size ∧ w2.cell? ⟨b, off + k, none⟩ = some (.int .i64 (N.getD k 0))) := by
          obtain ⟨a', c', hv, -, -, h3⟩ := HN.out.int
          simp only [Value.slice.injEq, true_and] at hv
          obtain ⟨rfl, rfl⟩ := hv
          exact h3
        generalize hnl' : N.length = nl at *
        have HNE := Lib.hid hnl'; clear hnl'
        go_wp2_with fail
        go_loopw [6, 7] (fun s i wv => ∃ (i' a : Nat), i' ≤ nl ∧ i = .int .i64 i' ∧ s = .int .i64 a ∧ Hid (a + triR (n, ys) (t : Int) (N.drop i') = A) ∧ Hid (Below w2.heap.size w2 wv)) (fun _ i _ => nl - (intOf i).toNat)
        case atStart => exact ⟨0, 0, Nat.zero_le _, rfl, rfl, HTA, Lib.hid (Below.refl _ _)⟩
        case round =>
          clear HTA
          obtain ⟨i, a, hi, rfl, rfl, HA, HW⟩ := hrel
          have ha := HA.out
          by_cases hil : i < nl
          · obtain ⟨b1, o1, rfl, hb1, ci⟩ := HNc.out i hil
            have HNd : Hid (∀ k, k < nl → w2.cell? ⟨b1, o1 + k, none⟩ = some (.int .i64 (N.getD k 0))) := Lib.hid fun k hk => by
              obtain ⟨b', o', hb', -, c'⟩ := HNc.out k hk
              simp only [Option.some.injEq, Addr.mk.injEq, and_true] at hb'
              obtain ⟨rfl, rfl⟩ := hb'
              exact c'
            have HA2 : Hid (a + (N.drop (i + 1)).countP (fun b => decide (b < (t : Int)) && decide (b ∈ nearOf ((n : Int), ys) (N.getD i 0))) + triR (n, ys) (t : Int) (N.drop (i + 1)) = A) := Lib.hid (by
              have h1 := triR_drop ((n : Int), ys) (t : Int) N i (by rw [HNE.out]; exact hil)
              have h2 := HA.out
              omega)
            have HOV := Lib.hid fun j (hj : j < nl) => count_over N HPW.out (t : Int) (fun b => decide (b ∈ nearOf ((n : Int), ys) (N.getD i 0))) j (by rw [HNE.out]; exact hj)
            have HCD := Lib.hid fun j (hj : j < nl) => count_drop (fun b => decide (b < (t : Int)) && decide (b ∈ nearOf ((n : Int), ys) (N.getD i 0))) N j (by rw [HNE.out]; exact hj)
            have HLx := Lib.hid fun wx (hb : Below w.heap.size w wx) => HNR.out wx (N.getD i 0) hb
            have hlx := HNL.out (N.getD i 0)
            clear HA HNc ha
            generalize N.getD i 0 = x at *
            generalize hLx : nearOf ((n : Int), ys) x = Lx at *
            clear hLx
            obtain ⟨R, hR⟩ : ∃ R, triR ((n : Int), ys) (t : Int) (N.drop (i + 1)) = R := ⟨_, rfl⟩
            rw [hR] at HA2
            have HRR := Lib.hid hR; clear hR
            go_wp2_with fail
            generalize wr = wi at *
            go_loopw [6, 8] (fun s j wv => ∃ (j' b : Nat), i + 1 ≤ j' ∧ j' ≤ nl ∧ j = .int .i64 j' ∧ s = .int .i64 b ∧ Hid (b + (N.drop j').countP (fun b => decide (b < (t : Int)) && decide (b ∈ Lx)) + R = A) ∧ Hid (Below w2.heap.size w2 wv)) (fun _ j _ => nl - (intOf j).toNat)
            case atStart => exact ⟨i + 1, a, Nat.le_refl _, hil, by go_num, rfl, HA2, HW⟩
            case round =>
              clear HA2 HW
              obtain ⟨j, b, hij, hj, rfl, rfl, HA, HW⟩ := hrel
              have ha := HA.out
              by_cases hjl : j < nl
              · have cj := (HW.out.cell (p := ⟨b1, o1 + j, none⟩) hb1).trans (HNd.out j hjl)
                have ci' := (HW.out.cell (p := ⟨b1, o1 + i, none⟩) hb1).trans ci
                have hcd := HCD.out j hjl
                have hov := HOV.out j hjl
                generalize N.getD j 0 = y at *
                by_cases hyv : y < (t : Int)
                · have e1 : decide (y < (t : Int)) = true := decide_eq_true hyv
                  have hcd2 : (N.drop j).countP (fun b => decide (b < (t : Int)) && decide (b ∈ Lx)) = tick (decide (y ∈ Lx)) + (N.drop (j + 1)).countP (fun b => decide (b < (t : Int)) && decide (b ∈ Lx)) := by rw [hcd, e1, Bool.true_and]
                  obtain ⟨Q, hQ⟩ : ∃ Q, (N.drop (j + 1)).countP (fun b => decide (b < (t : Int)) && decide (b ∈ Lx)) = Q := ⟨_, rfl⟩
                  have HQ := Lib.hid hQ; clear hQ
                  obtain ⟨bv, hbv⟩ : ∃ bv, decide (y ∈ Lx) = bv := ⟨_, rfl⟩
                  replace hbv := Lib.hid hbv
                  replace hcd2 := Lib.hid hcd2
                  clear hcd hov
                  go_wp2_with fail
                  have X2 := Lib.hid (box_keep X.out HW.out); have HBr := Lib.hid (HB.out.tr HW.out)
                  have hbr : b1 < wr.heap.size := Nat.lt_of_lt_of_le hb1 HW.out.size
                  refine wp_region_relA (fun x => { tmps := #[.agg #[.int .i64 (n : Int), .slice p l c], .pointer (some ⟨w.heap.size, 0, none⟩), .slice none 0 0, .slice a3 t c3, .int .i64 (t : Int), .slice (some ⟨b1, o1, none⟩) nl c2, .int .i64 (b : Int), .int .i64 (i : Int), .int .i64 (j : Int), .slice (some ⟨w.heap.size + 1, 0, none⟩) 0 0, .int .i64 (t : Int), .pointer (some ⟨w.heap.size, 0, none⟩), .int .i64 (n : Int), .bool true, .bool true, .agg #[.int .i64 (n : Int), .slice p l c], .bool true, .bool true, u18, u19, .agg #[.int .i64 (n : Int), .slice p l c], .int .i64 (t : Int), .slice (some ⟨b1, o1, none⟩) nl c2, .int .i64 (i : Int), .slice (some ⟨b1, o1, none⟩) nl c2, .int .i64 (nl : Int), .bool true, u27, u28, .int .i64 (i : Int), .int .i64 ((i : Int) + 1), x 31, x 32, x 33, x 34, x 35, x 36, x 37, x 38, x 39, x 40, x 41, x 42, x 43, x 44, x 45, x 46, x 47, x 48, x 49, x 50, x 51, x 52, x 53, x 54, x 55, x 56, x 57, u58, u59, u60, u61, undef], defers := [] })
                    (fun _ _ wx => Below wr.heap.size wr wx) (fun _ wx wy => Below wx.heap.size wx wy)
                    (Tl [cst (.agg #[.int .i64 (n : Int), .slice p l c]), cst (.slice (some ⟨b1, o1, none⟩) nl c2), cst (.int .i64 (i : Int)), cst (.pointer (some ⟨b1, o1 + i, none⟩)), cst (.int .i64 x), (fun v wx => ∃ a c, v = .slice a Lx.length c ∧ Rd wx 1 v Lx.length (ints Lx)), cst (.slice (some ⟨b1, o1, none⟩) nl c2), cst (.int .i64 (j : Int)), cst (.pointer (some ⟨b1, o1 + j, none⟩)), cst (.int .i64 y), cst (.bool bv)]) rfl
                    (by kernel_rfl) (by kernel_rfl) (by kernel_rfl) (stab_Tl ?hst) (fun _ _ => Below.refl _ _) (Below.refl _ _).drew ?hput ?hop ?hend
                  case hst =>
                    simp only [List.mem_cons, List.not_mem_nil, or_false, forall_eq_or_imp, forall_eq]
                    refine ⟨?_, ?_, ?_, ?_, ?_, ?_, ?_, ?_, ?_, ?_, ?_⟩
                    all_goals first | exact stab_cst _ _ | exact fun _ _ _ hb h => (by obtain ⟨a, c, h1, h2⟩ := h; exact ⟨a, c, h1, h2.keep hb⟩)
                  case hput =>
                    refine ⟨?_, ?_, ?_, ?_, ?_, ?_, ?_, ?_, ?_, ?_, ?_, trivial⟩
                    all_goals first | exact fun x v => rfl | exact trivial
                  case hop =>
                    refine ⟨?_, ?_, ?_, ?_, ?_, ?_, ?_, ?_, ?_, ?_, ?_, trivial⟩
                    · refine OpRel.plain rfl fun n L x wx K hn hL hG hdep hK => ?_
                      have hX := box_keep X2.out hG; have z0 := box_cell hX 0 _ rfl; have z1 := box_cell hX 1 _ rfl
                      clear hdep; go_simp
                      exact hK _ _ hG (Below.refl _ _) rfl
                    · refine OpRel.plain rfl fun n L x wx K hn hL hG hdep hK => ?_
                      clear hdep; go_simp
                      exact hK _ _ hG (Below.refl _ _) rfl
                    · refine OpRel.plain rfl fun n L x wx K hn hL hG hdep hK => ?_
                      clear hdep; go_simp
                      exact hK _ _ hG (Below.refl _ _) rfl
                    · refine OpRel.plain rfl fun n L x wx K hn hL hG hdep hK => ?_
                      have h46 : x 46 = _ := (hdep 1 rfl).2 _ rfl
                      have h47 : x 47 = _ := (hdep 2 rfl).2 _ rfl
                      clear hdep; simp only [h46, h47] at hK; go_simp
                      exact hK _ _ hG (Below.refl _ _) rfl
                    · refine OpRel.plain rfl fun n L x wx K hn hL hG hdep hK => ?_
                      have h48 : x 48 = _ := (hdep 3 rfl).2 _ rfl
                      have z := (hG.cell (p := ⟨b1, o1 + i, none⟩) hbr).trans ci'
                      clear hdep; simp only [h48] at hK; go_simp
                      exact hK _ _ hG (Below.refl _ _) rfl
                    · refine OpRel.plain rfl fun n L x wx K hn hL hG hdep hK => ?_
                      have h45 : x 45 = _ := (hdep 0 rfl).2 _ rfl
                      have h49 : x 49 = _ := (hdep 4 rfl).2 _ rfl
                      clear hdep
                      simp only [h45, h49] at hK
                      go_simp
                      refine (HLx.out _ (HBr.out.tr hG)).mono ?_
                      rintro e w7 ⟨s, rfl, hs, hb⟩
                      obtain ⟨a7, c7, rfl, -, -⟩ := Rd.form hs.rd
                      exact hK _ _ (hG.tr hb) hb ⟨_, _, rfl, hs.rd⟩
                    · refine OpRel.plain rfl fun n L x wx K hn hL hG hdep hK => ?_
                      clear hdep; go_simp
                      exact hK _ _ hG (Below.refl _ _) rfl
                    · refine OpRel.plain rfl fun n L x wx K hn hL hG hdep hK => ?_
                      clear hdep; go_simp
                      exact hK _ _ hG (Below.refl _ _) rfl
                    · refine OpRel.plain rfl fun n L x wx K hn hL hG hdep hK => ?_
                      have h51 : x 51 = _ := (hdep 6 rfl).2 _ rfl
                      have h52 : x 52 = _ := (hdep 7 rfl).2 _ rfl
                      clear hdep; simp only [h51, h52] at hK; go_simp
                      exact hK _ _ hG (Below.refl _ _) rfl
                    · refine OpRel.plain rfl fun n L x wx K hn hL hG hdep hK => ?_
                      have h53 : x 53 = _ := (hdep 8 rfl).2 _ rfl
                      have z := (hG.cell (p := ⟨b1, o1 + j, none⟩) hbr).trans cj
                      clear hdep; simp only [h53] at hK; go_simp
                      exact hK _ _ hG (Below.refl _ _) rfl
                    · refine OpRel.plain rfl fun n L x wx K hn hL hG hdep hK => ?_
                      have h54 : x 54 = _ := (hdep 9 rfl).2 _ rfl
                      obtain ⟨a7, c7, h50, hr7⟩ := (hdep 5 rfl).2 _ rfl
                      clear hdep
                      simp only [h50, h54] at hK
                      rw [h50] at hr7
                      go_simp
                      refine (l7Has_any _ _ _ y hr7).mono ?_
                      rintro e w7 ⟨rfl, rfl⟩
                      exact hK _ _ hG (Below.refl _ _) (by rw [hbv.out]; rfl)
                  case hend =>
                    intro n' L x' wx _ hG hh
                    have h55 : x' 55 = _ := (hh 10 (by decide)).2 _ rfl
                    clear hh
                    have HW9 := Lib.hid (HW.out.tr hG)
                    clear hG
                    simp only [h55]
                    cases bv
                    · have HA9 : Hid (b + (N.drop (j + 1)).countP (fun b => decide (b < (t : Int)) && decide (b ∈ Lx)) + triR (n, ys) (t : Int) (N.drop (i + 1)) = A) := Lib.hid (by have h1 := HA.out; rw [hcd2.out, hbv.out] at h1; unfold tick at h1; rw [HRR.out]; simp at h1 ⊢; omega)
                      go_wp2_with fail
                      go_roundw
                      case rel => exact ⟨j + 1, _, by omega, by omega, by go_num, by go_num, by rw [← HRR.out]; exact HA9, HW9⟩
                      case measure => simp [intOf]; omega
                    · have HA9 : Hid (b + 1 + (N.drop (j + 1)).countP (fun b => decide (b < (t : Int)) && decide (b ∈ Lx)) + triR (n, ys) (t : Int) (N.drop (i + 1)) = A) := Lib.hid (by have h1 := HA.out; rw [hcd2.out, hbv.out] at h1; unfold tick at h1; rw [HRR.out]; simp at h1 ⊢; omega)
                      go_wp2_with fail
                      go_roundw
                      case rel => exact ⟨j + 1, _, by omega, by omega, by go_num, by go_num, by rw [← HRR.out]; exact HA9, HW9⟩
                      case measure => simp [intOf]; omega
                · have e1 : decide (y < (t : Int)) = false := decide_eq_false hyv
                  have HA9 : Hid (b + R = A) := Lib.hid (by have := hov (by omega); omega)
                  clear hov hcd
                  go_wp2_with fail
                  go_roundw
                  case rel => exact ⟨i + 1, b, by omega, by go_num, rfl, by rw [HRR.out]; exact HA9, HW⟩
                  case measure => simp [intOf]; omega
              · obtain rfl : j = nl := by omega
                have HA9 : Hid (b + R = A) := Lib.hid (by
                  have h1 := HA.out
                  rw [List.drop_of_length_le (by rw [HNE.out]; exact Nat.le_refl _)] at h1
                  simpa using h1)
                go_wp2_with fail
                go_roundw
                case rel => exact ⟨i + 1, b, by omega, by go_num, rfl, by rw [HRR.out]; exact HA9, HW⟩
                case measure => simp [intOf]; omega
          · obtain rfl : i = nl := by omega
            have HA9 : Hid (a = A) := Lib.hid (by
              have h1 := HA.out
              rw [List.drop_of_length_le (by rw [HNE.out]; exact Nat.le_refl _)] at h1
              simpa [triR] using h1)
            replace HB := Lib.hid (HB.out.tr HW.out); replace X := Lib.hid (box_keep X.out HW.out); replace HO := Lib.hid (ownsRow_keep HO.out HW.out)
            obtain rfl := HA9.out
            go_wp2_with (at_builtin; refine wpList_pushB rfl _ _ 26 3 rfl (.int .i64 0) 1 8 Tryd.underlying26 infoInt rfl (by decide) (by decide) #[.int .i64 (a : Int)] rfl (by simp [Value.oneCell']) (w.heap.size + 1) _ _ _ HO.out rfl rfl (by omega) (box_lt X.out) ?_; intro v' w9 hown1 hbel1 hne1)
            go_roundw
            case rel =>
              refine ⟨t + 1, by omega, by go_num, Lib.hid ?_, Lib.hid (HB.out.trans (hbel1.mono (by omega))), Lib.hid ((hbel1.block _ (by omega)).trans X.out)⟩
              rw [HS.out, ints_append]; exact hown1
            case measure => simp [intOf]; omega
      · obtain rfl : t = n := by omega
        have h9 := (Ow.of_row HO.out).mono (show w.heap.size ≤ w.heap.size + 1 by omega) (Nat.le_refl _)
        have H9 := Lib.hid h9; clear h9
        go_wp2_with fail
        go_ret
        exact ⟨_, rfl, by rw [triTo_length]; exact H9.out, HB.out⟩

/-! The program's. -/
theorem below_bits (m v : Nat) : (bitsOf (m &&& (2 ^ v - 1))).map (fun (u : Nat) => (u : Int)) = ((bitsOf m).map fun (u : Nat) => (u : Int)).filter fun b => decide (b < (v : Int)) := by
  rw [List.filter_map]
  congr 1
  unfold bitsOf
  rw [List.filter_filter]
  congr 1
  funext i
  simp only [Nat.testBit_and, Nat.testBit_two_pow_sub_one, Function.comp_apply, Int.ofNat_lt]
  cases m.testBit i <;> simp
theorem mem_bits (m i : Nat) (hm : m < 2 ^ 32) : ((i : Int) ∈ (bitsOf m).map fun (u : Nat) => (u : Int)) ↔ m.testBit i = true := by
  rw [List.mem_map, ← bitsOf_mem hm]
  constructor
  · rintro ⟨u, hu, he⟩
    have : u = i := by omega
    subst this; exact hu
  · intro h; exact ⟨i, h, rfl⟩
theorem count_bits (l m b : Nat) (hm : m < 2 ^ 32) : (bitsOf ((l &&& m) &&& (2 ^ b - 1))).length = ((bitsOf l).map fun (u : Nat) => (u : Int)).countP fun c => decide (c < (b : Int)) && decide (c ∈ (bitsOf m).map fun (u : Nat) => (u : Int)) := by
  rw [List.countP_map]
  unfold bitsOf
  rw [List.countP_filter, ← List.countP_eq_length_filter]
  refine countP_congr' fun i _ => ?_
  simp only [Nat.testBit_and, Nat.testBit_two_pow_sub_one, Function.comp_apply, Int.ofNat_lt]
  have h := mem_bits m i hm
  unfold bitsOf at h
  rw [show decide ((i : Int) ∈ ((List.range 32).filter m.testBit).map fun (u : Nat) => (u : Int)) = m.testBit i from by
    cases hb : m.testBit i
    · exact decide_eq_false fun hh => by rw [h.1 hh] at hb; cases hb
    · exact decide_eq_true (h.2 hb)]
  cases l.testBit i <;> cases m.testBit i <;> simp
theorem ownsRow_low {lo hi b n c : Nat} {w w' : World} {e : TypeId} {cs : List Value} (h : w.ownsRow b e 1 (.slice (some ⟨b, 0, none⟩) n c) n cs) (hc : Chg lo hi w w') (hd : b < lo) : w'.ownsRow b e 1 (.slice (some ⟨b, 0, none⟩) n c) n cs := by
  refine ⟨h.1, ?_⟩
  rcases h.2 with h2 | ⟨g, cap, cur, hv, hb, hg, r⟩
  · exact .inl h2
  · have hgb : g = b := by simp only [Value.slice.injEq, Option.some.injEq, Addr.mk.injEq] at hv; exact hv.1.1.symm
    subst hgb
    exact .inr ⟨g, cap, cur, hv, hb, (hc.block g (Array.getElem?_eq_some_iff.1 hg).1 (.inl hd)).trans hg, r⟩
theorem setL_tr {L : Nat → Bool} (i : Nat) {j : Nat} (h : L j = true) : setL L i j = true := by unfold setL; split <;> simp_all
theorem setL_ne {L : Nat → Bool} {i j : Nat} (hij : j ≠ i) : setL L i j = L j := by simp [setL, hij]
theorem getD_memT {α : Type} {l : List α} {j : Nat} {d : α} (h : j < l.length) : l.getD j d ∈ l := by
  rw [List.getD_eq_getElem?_getD, List.getElem?_eq_getElem h]; exact List.getElem_mem h
theorem sum_drop (f : Int → Nat) (l : List Int) (j : Nat) (h : j < l.length) : ((l.drop j).map f).sum = f (l.getD j 0) + ((l.drop (j + 1)).map f).sum := by
  rw [drop_get l j 0 h]; rfl
theorem nat_getD {B : List Nat} {j : Nat} (h : j < B.length) : (B.map fun (u : Nat) => (u : Int)).getD j 0 = ((B.getD j 0 : Nat) : Int) := by simp [h]
/-- A list of n numbers of which the first v are filled in, and the next one is s. -/
def fillS (n v : Nat) (D : List Int) (s : Int) : List Value := ints (D.take v) ++ (.int .i64 s :: ints (List.replicate (n - v - 1) 0))
theorem fillS_start {n v : Nat} {D : List Int} (hv : v < n) : fillI n v D = fillS n v D 0 := by
  unfold fillI fillS
  rw [show n - v = (n - v - 1) + 1 from by omega, List.replicate_succ]
  rfl
theorem fillS_get {n v : Nat} {D : List Int} (s : Int) (hD : D.length = n) (hv : v < n) : (fillS n v D s)[v]? = some (.int .i64 s) := by
  unfold fillS
  have hl : (ints (D.take v)).length = v := by rw [ints_length, List.length_take]; omega
  rw [List.getElem?_append_right (by omega), hl, Nat.sub_self]; rfl
theorem fillS_set {n v : Nat} {D : List Int} (s s' : Int) (hD : D.length = n) (hv : v < n) : (fillS n v D s).set v (.int .i64 s') = fillS n v D s' := by
  unfold fillS
  have hl : (ints (D.take v)).length = v := by rw [ints_length, List.length_take]; omega
  rw [List.set_append_right _ _ (by omega), hl, Nat.sub_self]; rfl
theorem fillS_end {n v : Nat} {D : List Int} (hD : D.length = n) (hv : v < n) : fillS n v D (D.getD v 0) = fillI n (v + 1) D := by
  unfold fillI fillS
  rw [ints_take_snoc D v (by omega), List.append_assoc]
  rfl

theorem below_any (m v : Nat) (hm : m < 65536) (hv : v < 16) (w : World) : Calls Tryd.prog 53 #[.int .u32 m, .int .i64 v] w fun e w' => e = .returned (.int .u32 ((m &&& (2 ^ v - 1) : Nat) : Int)) ∧ w = w' := by
  have hp := two_pow_lt16 hv
  have hp1 : 1 ≤ 2 ^ v := Nat.one_le_two_pow
  have C := Lib.hid (maskOf_any v (by omega) w)
  have e1 : ((2 ^ v : Nat) : Int) - 1 = ((2 ^ v - 1 : Nat) : Int) := by omega
  have e2 : (((2 ^ v : Nat) : Int) - 1) % 4294967296 = ((2 ^ v - 1 : Nat) : Int) := by omega
  have hlt : 2 ^ v - 1 < 2 ^ 32 := by omega
  have h3 := u32_and m (2 ^ v - 1) (by omega) hlt
  generalize hq : 2 ^ v - 1 = q at *
  generalize 2 ^ v = pw at *
  have HE1 := Lib.hid e1; have HE2 := Lib.hid e2
  clear e1 e2
  go_enter Tryd.func53, Tryd.ntmps53
  go_wp2_with fail
  refine C.out.mono ?_
  rintro e w' ⟨rfl, rfl⟩
  go_wp2_with fail
  rw [HE1.out, h3]
  go_ret
  exact ⟨rfl, rfl⟩

set_option maxRecDepth 100000 in
set_option maxHeartbeats 8000000 in
theorem implTrianglesAt_any (w : World) (va : Value) (g : GraphD) (h : RdGraph w va g) (HT : TabW w) : Calls Tryd.prog 26 #[va] w (RetI w (trianglesAt g)) := by
  have HTB := Lib.hid HT; clear HT
  have HRG := Lib.hid h
  obtain ⟨p, c, rfl, hr, hc, hmx⟩ := h.form
  clear h hr
  obtain ⟨m, ys⟩ := g
  simp only at hc ⊢
  have HB : Hid (Below w.heap.size w (w.alloc (.cells #[.int .i64 m, .slice p ys.length c] 30))) := Lib.hid (by go_grown)
  have X := Lib.hid (heap_alloc_new w (.cells #[.int .i64 m, .slice p ys.length c] 30))
  have HV := Lib.hid fun wx (hb : Below w.heap.size w wx) => implGraphValid_any wx _ _ (HRG.out.keep hb)
  unfold trianglesAt
  simp only
  cases hok : graphOk (m, ys)
  · rw [hok] at HV
    simp only [Bool.false_eq_true, if_false]
    go_enter Tryd.func26, Tryd.ntmps26
    go_wp2_with fail
    refine (HV.out _ HB.out).mono ?_
    rintro e w1 ⟨rfl, hb⟩
    replace HB := Lib.hid (HB.out.tr hb); clear hb
    go_wp2_with fail
    go_ret
    exact ⟨_, rfl, Ow.nil _ _ _ _ _ _, HB.out⟩
  · rw [hok] at HV
    simp only [if_true]
    have hgo := graphOk_yes hok
    have HMS := Lib.hid fun wx (hb : Below w.heap.size w wx) => nearMasks_any wx _ _ (HRG.out.keep hb) hgo
    have HBT := Lib.hid fun M hM v hv => near_bits hgo (M := M) hM (v := v) hv
    have HTS := Lib.hid fun v => tri_same (m, ys) v
    have HTL := Lib.hid fun v => triAt_le (m, ys) v
    have HNRG := Lib.hid fun a z (h : z ∈ nearOf (m, ys) a) => near_range h
    have hm := hgo.1
    simp only at hm HMS HBT HNRG
    obtain ⟨n, rfl⟩ := Int.eq_ofNat_of_zero_le hm.1
    rw [Int.toNat_natCast] at HMS HBT ⊢
    clear hok hgo
    have hn16 : n ≤ 16 := by omega
    clear hm
    generalize hl : ys.length = l at *
    clear hl
    have HDL := Lib.hid (triTo_length (n, ys) n)
    have HDG : Hid (∀ v, v < n → (triTo (n, ys) n).getD v 0 = ((triAt (n, ys) v : Nat) : Int)) := Lib.hid fun v hv => by simp [triTo, hv]
    generalize triTo (n, ys) n = D at *
    obtain ⟨i0, hi, hz0, hz1, hz2⟩ := info_parts infoInt
    have Hi := Lib.hid hi; have Hz0 := Lib.hid hz0; have Hz1 := Lib.hid hz1; have Hz2 := Lib.hid hz2; clear hi hz0 hz1 hz2
    go_enter Tryd.func26, Tryd.ntmps26
    go_wp2_with fail
    refine (HV.out _ HB.out).mono ?_
    rintro e w1 ⟨rfl, hb⟩
    replace HB := Lib.hid (HB.out.tr hb); replace X := Lib.hid (box_keep X.out hb); clear hb HV
    have k0 := box_cell X.out 0 _ rfl; have k1 := box_cell X.out 1 _ rfl
    go_wp2_with fail
    refine (HMS.out _ HB.out).mono ?_
    rintro e w2 ⟨b3, M, rfl, hbb, ho, hM, hb⟩
    replace HB := Lib.hid (HB.out.tr hb); replace X := Lib.hid (box_keep X.out hb)
    have HW := Lib.hid ho
    have hml : M.length = n := hM.1
    have HMB := Lib.hid fun v (hv : v < n) => (hM.2 v hv).1
    replace HBT := Lib.hid fun v (hv : v < n) => HBT.out M hM v hv
    have hw1 := box_lt X.out
    have hb3 := ho.lt _ rfl
    clear ho hb hM HMS k0 k1 HRG
    have k0 := box_cell X.out 0 _ rfl; have k1 := box_cell X.out 1 _ rfl
    go_wp2_with (at_make; refine wpList_make_full _ rfl _ _ 26 rfl w2.heap.size 3 i0 (.int .i64 0) 1 Tryd.underlying26 Hi.out Hz0.out Hz1.out _ _ _ _ n rfl rfl rfl rfl (by rw [Hz2.out]; omega) (by unfold maxLen; omega) (by simp) ?_)
    intro w3 hown hgrow
    have HO : Hid (w3.ownsRow w2.heap.size 3 1 (.slice (some ⟨w2.heap.size, 0, none⟩) n n) n (fillI n 0 D)) := Lib.hid (by
      have h := hown
      rw [toList_madeCells_one] at h
      rw [fillI_start]; exact h)
    have hb2 : Below w2.heap.size w2 w3 := (Below.refl _ _).grown hgrow (Nat.le_refl _) (by intro k hk; cases hk)
    have hlt2 : w2.heap.size < w3.heap.size := (HO.out.lt _ rfl).2
    replace HB := Lib.hid (HB.out.tr hb2); replace HW := Lib.hid (ownsRow_keep HW.out hb2)
    clear hown hgrow hb2 Hi Hz0 Hz1 Hz2 k0 k1 X
    obtain ⟨b4, hb4⟩ : ∃ b4, w2.heap.size = b4 := ⟨_, rfl⟩
    rw [hb4] at HO hlt2
    generalize w2.heap.size = b4' at *
    subst hb4
    go_wp2_with fail
    go_loopw [19] (fun i wr => ∃ k : Nat, k ≤ n ∧ i = .int .i64 k ∧ Hid (wr.ownsRow b4' 3 1 (.slice (some ⟨b4', 0, none⟩) n n) n (fillI n k D)) ∧ Hid (wr.ownsRow b3 67 1 (.slice (some ⟨b3, 0, none⟩) n n) n (mks M)) ∧ Hid (Below w.heap.size w wr)) (fun i _ => n - (intOf i).toNat)
    case atStart => exact ⟨0, Nat.zero_le _, rfl, HO, HW, HB⟩
    case round =>
      clear HO HW HB
      obtain ⟨k, hk, rfl, HO, HW, HB⟩ := hrel
      by_cases hlt : k < n
      · have c0 : wr.cell? ⟨b3, k, none⟩ = some (.int .u32 ((M.getD k 0 : Nat) : Int)) := by rw [HW.out.cellAt k (by omega)]; exact mks_get M k (by omega)
        have hgl := HMB.out k hlt
        have hgd := HDG.out k hlt
        have hse := fillS_end HDL.out hlt
        rw [hgd] at hse
        have HSE := Lib.hid hse
        have hTl := HTL.out k
        have hts := HTS.out k
        rw [← HBT.out k hlt, ← below_bits] at hts
        have hNR := HNRG.out (k : Int)
        rw [← HBT.out k hlt] at hNR
        generalize hmv : M.getD k 0 = mv at *
        have CB := Lib.hid fun wx => below_any mv k hgl (by omega) wx
        have hlm : mv &&& (2 ^ k - 1) < 65536 := Nat.lt_of_le_of_lt Nat.and_le_left hgl
        have hNR2 : Hid (∀ j, j < (bitsOf (mv &&& (2 ^ k - 1))).length → (bitsOf (mv &&& (2 ^ k - 1))).getD j 0 < n) := Lib.hid fun j hj => by
          have h1 := getD_memT (d := 0) hj
          generalize (bitsOf (mv &&& (2 ^ k - 1))).getD j 0 = z at *
          rw [bitsOf_mem (by omega), Nat.testBit_and, Bool.and_eq_true] at h1
          have h2 := (mem_bits mv z (by omega)).2 h1.1
          have := hNR _ h2
          omega
        have HO2 : Hid (wr.ownsRow b4' 3 1 (.slice (some ⟨b4', 0, none⟩) n n) n (fillS n k D 0)) := Lib.hid (by rw [← fillS_start hlt]; exact HO.out)
        clear hNR hgd hse HO
        have HCT : Hid (∀ bn, bn < n → (bitsOf ((mv &&& (2 ^ k - 1)) &&& M.getD bn 0 &&& (2 ^ bn - 1))).length = ((bitsOf (mv &&& (2 ^ k - 1))).map fun (u : Nat) => (u : Int)).countP fun c => decide (c < (bn : Int)) && decide (c ∈ nearOf ((n : Int), ys) (bn : Int))) := Lib.hid fun bn hbn => by
          rw [count_bits _ _ _ (by have := HMB.out bn hbn; omega), HBT.out bn hbn]
        generalize hA : triAt ((n : Int), ys) k = A at *
        generalize mv &&& (2 ^ k - 1) = lm at *
        have CL := Lib.hid fun wx ht => list_any lm hlm wx ht
        have hbl : (bitsOf lm).length ≤ 32 := by unfold bitsOf; exact Nat.le_trans (List.length_filter_le _ _) (by simp)
        have HLg : Hid (∀ j, j < (bitsOf lm).length → ∃ bn : Nat, ((bitsOf lm).map fun (u : Nat) => (u : Int)).getD j 0 = (bn : Int) ∧ bn < n) := Lib.hid fun j hj => ⟨_, nat_getD hj, hNR2.out j hj⟩
        rw [← List.length_map (f := fun (u : Nat) => (u : Int))] at hbl HLg
        clear hNR2
        generalize (bitsOf lm).map (fun (u : Nat) => (u : Int)) = LI at *
        obtain ⟨f, hf⟩ : ∃ f : Int → Nat, (fun b => LI.countP fun c => decide (c < b) && decide (c ∈ nearOf ((n : Int), ys) b)) = f := ⟨_, rfl⟩
        have HCF : Hid (∀ bn, bn < n → (bitsOf ((lm &&& M.getD bn 0) &&& (2 ^ bn - 1))).length = f (bn : Int)) := Lib.hid fun bn hbn => by rw [← hf]; exact HCT.out bn hbn
        have HTA : Hid (0 + ((LI.drop 0).map f).sum = A) := Lib.hid (by rw [Nat.zero_add, ← hf]; exact hts.symm)
        have HSD := Lib.hid fun j => sum_drop f LI j
        clear hts HCT hf
        generalize hll : LI.length = ll at *
        have HLL := Lib.hid hll; clear hll
        go_wp2_with fail
        refine (CB.out _).mono ?_
        rintro e w' ⟨rfl, rfl⟩
        clear CB c0
        go_wp2_with fail
        refine (CL.out _ (HTB.out.keep HB.out)).mono ?_
        rintro e w5 ⟨s, rfl, hs, hb⟩
        rw [HLL.out] at hs
        obtain ⟨a5, c5, rfl, hc5, hm5⟩ := Rd.form hs.rd
        have hlo5 := (HO2.out.lt _ rfl).2
        replace HB := Lib.hid (HB.out.tr hb); replace HO2 := Lib.hid (ownsRow_keep HO2.out hb); replace HW := Lib.hid (ownsRow_keep HW.out hb)
        generalize wr.heap.size = lo5 at hs hlo5
        generalize hh5 : w5.heap.size = hi5 at hs
        have HLI := Lib.hid hs
        have hhi5 : hi5 ≤ w5.heap.size := by omega
        clear hs hb CL hh5
        go_wp2_with fail
        go_loopw [31] (fun i wv => ∃ (q a : Nat), q ≤ ll ∧ i = .int .i64 q ∧ Hid (a + ((LI.drop q).map f).sum = A) ∧ Hid (wv.ownsRow b4' 3 1 (.slice (some ⟨b4', 0, none⟩) n n) n (fillS n k D (a : Int))) ∧ Hid (wv.ownsRow b3 67 1 (.slice (some ⟨b3, 0, none⟩) n n) n (mks M)) ∧ Hid (Ow lo5 hi5 wv 3 1 (.slice a5 ll c5) ll (ints LI)) ∧ Hid (Below w.heap.size w wv)) (fun i _ => ll - (intOf i).toNat)
        case atStart => exact ⟨0, 0, Nat.zero_le _, rfl, HTA, HO2, HW, HLI, HB⟩
        case round =>
          clear HO2 HW HB HLI HTA
          obtain ⟨q, a, hq, rfl, HA, HO, HW, HLI, HB⟩ := hrel
          have ha := HA.out
          by_cases hql : q < ll
          · have hsd := HSD.out q hql
            obtain ⟨bk, hbk, hbkn⟩ := HLg.out q hql
            have hcf := HCF.out bk hbkn
            have hrd : Rd wr 1 (.slice a5 LI.length c5) LI.length (ints LI) := by rw [HLL.out]; exact HLI.out.rd
            obtain ⟨a', c', hv, -, -, h3⟩ := hrd.int
            simp only [Value.slice.injEq, true_and] at hv
            obtain ⟨rfl, rfl⟩ := hv
            obtain ⟨b1, o1, rfl, hb1, cq⟩ := h3.out q (by rw [HLL.out]; exact hql)
            rw [hbk] at cq hsd
            rw [← hcf] at hsd
            have hmb := HMB.out bk hbkn
            have cm : wr.cell? ⟨b3, bk, none⟩ = some (.int .u32 ((M.getD bk 0 : Nat) : Int)) := by rw [HW.out.cellAt bk (by omega)]; exact mks_get M bk (by omega)
            generalize M.getD bk 0 = mb at *
            have hl1 : lm &&& mb < 65536 := Nat.lt_of_le_of_lt Nat.and_le_left hlm
            have hl2 : (lm &&& mb) &&& (2 ^ bk - 1) < 65536 := Nat.lt_of_le_of_lt Nat.and_le_left hl1
            have hand := u32_and lm mb (by omega) (by omega)
            have CB := Lib.hid fun wx => below_any (lm &&& mb) bk hl1 (by omega) wx
            generalize hx1 : lm &&& mb = x1 at *
            generalize hx2 : x1 &&& (2 ^ bk - 1) = x2 at *
            have CS := Lib.hid fun wx => size_any x2 hl2 wx
            generalize hx3 : (bitsOf x2).length = sz at *
            have ca : wr.cell? ⟨b4', k, none⟩ = some (.int .i64 (a : Int)) := by rw [HO.out.cellAt k (by omega)]; exact fillS_get _ HDL.out hlt
            have HA2 : Hid (a + sz + ((LI.drop (q + 1)).map f).sum = A) := Lib.hid (by rw [← ha, hsd]; omega)
            have has : a + sz ≤ 256 := by have := HA2.out; omega
            have hwrp : IntKind.i64.wrap ((a : Int) + (sz : Int)) = (a : Int) + (sz : Int) := IntWalk.i64_in _ (by omega)
            have hb3l := (HW.out.lt _ rfl).2; have hb4l := (HO.out.lt _ rfl).2
            simp only at hb3l hb4l
            clear h3 hrd hbk hcf hsd hmb hx1 hx2 hx3 HA ha
            go_wp2_with fail
            refine wp_region_relA (fun x => { tmps := #[.agg #[.int .i64 (n : Int), .slice p l c], .pointer (some ⟨w.heap.size, 0, none⟩), .slice none 0 0, .slice (some ⟨b3, 0, none⟩) n n, .slice (some ⟨b4', 0, none⟩) n n, .int .i64 (k : Int), .int .u32 (lm : Int), undef, .int .i64 (bk : Int), .agg #[.int .i64 (n : Int), .slice p l c], .bool true, .bool false, .agg #[.int .i64 (n : Int), .slice p l c], .slice (some ⟨b3, 0, none⟩) n n, .pointer (some ⟨w.heap.size, 0, none⟩), .int .i64 (n : Int), .slice (some ⟨b4', 0, none⟩) n n, .slice (some ⟨b4', 0, none⟩) n n, .int .i64 (n : Int), .int .i64 (k : Int), .bool true, .int .i64 (k : Int), .slice (some ⟨b3, 0, none⟩) n n, .int .i64 (k : Int), .pointer (some ⟨b3, k, none⟩), .int .u32 (mv : Int), .int .i64 (k : Int), .int .u32 (lm : Int), .int .u32 (lm : Int), .slice (some ⟨b1, o1, none⟩) ll c5, .int .i64 (ll : Int), .int .i64 (q : Int), x 32, x 33, x 34, x 35, x 36, x 37, x 38, x 39, x 40, x 41, x 42, x 43, x 44, x 45, x 46, x 47, x 48, x 49, x 50, u51, undef], defers := [] })
              (fun _ L wx => (L 15 = false → Below wr.heap.size wr wx) ∧ (L 15 = true → (∀ i, i < 15 → L i = true) ∧ Hid (wx.ownsRow b4' 3 1 (.slice (some ⟨b4', 0, none⟩) n n) n (fillS n k D ((a : Int) + (sz : Int)))) ∧ Hid (wx.ownsRow b3 67 1 (.slice (some ⟨b3, 0, none⟩) n n) n (mks M)) ∧ Hid (Ow lo5 hi5 wx 3 1 (.slice (some ⟨b1, o1, none⟩) ll c5) ll (ints LI)) ∧ Hid (Below w.heap.size w wx))) (fun _ _ _ => True)
              (Tl [cst (.slice (some ⟨b4', 0, none⟩) n n), cst (.int .i64 (k : Int)), cst (.pointer (some ⟨b4', k, none⟩)), cst (.int .i64 (a : Int)), cst (.int .u32 (lm : Int)), cst (.slice (some ⟨b3, 0, none⟩) n n), cst (.int .i64 (bk : Int)), cst (.pointer (some ⟨b3, bk, none⟩)), cst (.int .u32 (mb : Int)), cst (.int .u32 (x1 : Int)), cst (.int .i64 (bk : Int)), cst (.int .u32 (x2 : Int)), cst (.int .i64 (sz : Int)), cst (.int .i64 ((a : Int) + (sz : Int))), cst (.pointer (some ⟨b4', k, none⟩)), tru]) rfl
              (by kernel_rfl) (by kernel_rfl) (by kernel_rfl) (stab_Tl ?hst) (fun _ _ => trivial) ⟨fun _ => (Below.refl _ _).drew, fun h => by cases h⟩ ?hput ?hop ?hend
            case hst =>
              simp only [List.mem_cons, List.not_mem_nil, or_false, forall_eq_or_imp, forall_eq]
              refine ⟨?_, ?_, ?_, ?_, ?_, ?_, ?_, ?_, ?_, ?_, ?_, ?_, ?_, ?_, ?_, ?_⟩
              all_goals first | exact stab_cst _ _ | exact fun _ _ _ _ h => h
            case hput =>
              refine ⟨?_, ?_, ?_, ?_, ?_, ?_, ?_, ?_, ?_, ?_, ?_, ?_, ?_, ?_, ?_, ?_, trivial⟩
              all_goals first | exact fun x v => rfl | exact trivial
            case hop =>
              refine ⟨?_, ?_, ?_, ?_, ?_, ?_, ?_, ?_, ?_, ?_, ?_, ?_, ?_, ?_, ?_, ?_, trivial⟩
              · refine OpRel.plain rfl fun n L x wx K hn hL hG hdep hK => ?_
                have hL15 : L 15 = false := by cases h15 : L 15 with | false => rfl | true => rw [(hG.2 h15).1 0 (by decide)] at hL; cases hL
                have hP := hG.1 hL15
                clear hdep; go_simp
                exact hK _ _ ⟨fun _ => hP, fun h => (by rw [setL_ne (by decide), hL15] at h; cases h)⟩ trivial rfl
              · refine OpRel.plain rfl fun n L x wx K hn hL hG hdep hK => ?_
                have hL15 : L 15 = false := by cases h15 : L 15 with | false => rfl | true => rw [(hG.2 h15).1 1 (by decide)] at hL; cases hL
                have hP := hG.1 hL15
                clear hdep; go_simp
                exact hK _ _ ⟨fun _ => hP, fun h => (by rw [setL_ne (by decide), hL15] at h; cases h)⟩ trivial rfl
              · refine OpRel.plain rfl fun n L x wx K hn hL hG hdep hK => ?_
                have h35 : x 35 = _ := (hdep 0 rfl).2 _ rfl
                have h36 : x 36 = _ := (hdep 1 rfl).2 _ rfl
                have hL15 : L 15 = false := by cases h15 : L 15 with | false => rfl | true => rw [(hG.2 h15).1 2 (by decide)] at hL; cases hL
                have hP := hG.1 hL15
                clear hdep; simp only [h35, h36] at hK; go_simp
                exact hK _ _ ⟨fun _ => hP, fun h => (by rw [setL_ne (by decide), hL15] at h; cases h)⟩ trivial rfl
              · refine OpRel.plain rfl fun n L x wx K hn hL hG hdep hK => ?_
                have h37 : x 37 = _ := (hdep 2 rfl).2 _ rfl
                have hL15 : L 15 = false := by cases h15 : L 15 with | false => rfl | true => rw [(hG.2 h15).1 3 (by decide)] at hL; cases hL
                have hP := hG.1 hL15
                have z := (hP.cell (p := ⟨b4', k, none⟩) hb4l).trans ca
                clear hdep; simp only [h37] at hK; go_simp
                exact hK _ _ ⟨fun _ => hP, fun h => (by rw [setL_ne (by decide), hL15] at h; cases h)⟩ trivial rfl
              · refine OpRel.plain rfl fun n L x wx K hn hL hG hdep hK => ?_
                have hL15 : L 15 = false := by cases h15 : L 15 with | false => rfl | true => rw [(hG.2 h15).1 4 (by decide)] at hL; cases hL
                have hP := hG.1 hL15
                clear hdep; go_simp
                exact hK _ _ ⟨fun _ => hP, fun h => (by rw [setL_ne (by decide), hL15] at h; cases h)⟩ trivial rfl
              · refine OpRel.plain rfl fun n L x wx K hn hL hG hdep hK => ?_
                have hL15 : L 15 = false := by cases h15 : L 15 with | false => rfl | true => rw [(hG.2 h15).1 5 (by decide)] at hL; cases hL
                have hP := hG.1 hL15
                clear hdep; go_simp
                exact hK _ _ ⟨fun _ => hP, fun h => (by rw [setL_ne (by decide), hL15] at h; cases h)⟩ trivial rfl
              · refine OpRel.plain rfl fun n L x wx K hn hL hG hdep hK => ?_
                have hL15 : L 15 = false := by cases h15 : L 15 with | false => rfl | true => rw [(hG.2 h15).1 6 (by decide)] at hL; cases hL
                have hP := hG.1 hL15
                clear hdep; go_simp
                exact hK _ _ ⟨fun _ => hP, fun h => (by rw [setL_ne (by decide), hL15] at h; cases h)⟩ trivial rfl
              · refine OpRel.plain rfl fun n L x wx K hn hL hG hdep hK => ?_
                have h40 : x 40 = _ := (hdep 5 rfl).2 _ rfl
                have h41 : x 41 = _ := (hdep 6 rfl).2 _ rfl
                have hL15 : L 15 = false := by cases h15 : L 15 with | false => rfl | true => rw [(hG.2 h15).1 7 (by decide)] at hL; cases hL
                have hP := hG.1 hL15
                clear hdep; simp only [h40, h41] at hK; go_simp
                exact hK _ _ ⟨fun _ => hP, fun h => (by rw [setL_ne (by decide), hL15] at h; cases h)⟩ trivial rfl
              · refine OpRel.plain rfl fun n L x wx K hn hL hG hdep hK => ?_
                have h42 : x 42 = _ := (hdep 7 rfl).2 _ rfl
                have hL15 : L 15 = false := by cases h15 : L 15 with | false => rfl | true => rw [(hG.2 h15).1 8 (by decide)] at hL; cases hL
                have hP := hG.1 hL15
                have z := (hP.cell (p := ⟨b3, bk, none⟩) hb3l).trans cm
                clear hdep; simp only [h42] at hK; go_simp
                exact hK _ _ ⟨fun _ => hP, fun h => (by rw [setL_ne (by decide), hL15] at h; cases h)⟩ trivial rfl
              · refine OpRel.plain rfl fun n L x wx K hn hL hG hdep hK => ?_
                have h39 : x 39 = _ := (hdep 4 rfl).2 _ rfl
                have h43 : x 43 = _ := (hdep 8 rfl).2 _ rfl
                have hL15 : L 15 = false := by cases h15 : L 15 with | false => rfl | true => rw [(hG.2 h15).1 9 (by decide)] at hL; cases hL
                have hP := hG.1 hL15
                clear hdep
                simp only [h39, h43] at hK
                go_simp
                exact hK _ _ ⟨fun _ => hP, fun h => (by rw [setL_ne (by decide), hL15] at h; cases h)⟩ trivial rfl
              · refine OpRel.plain rfl fun n L x wx K hn hL hG hdep hK => ?_
                have hL15 : L 15 = false := by cases h15 : L 15 with | false => rfl | true => rw [(hG.2 h15).1 10 (by decide)] at hL; cases hL
                have hP := hG.1 hL15
                clear hdep; go_simp
                exact hK _ _ ⟨fun _ => hP, fun h => (by rw [setL_ne (by decide), hL15] at h; cases h)⟩ trivial rfl
              · refine OpRel.plain rfl fun n L x wx K hn hL hG hdep hK => ?_
                have h44 : x 44 = _ := (hdep 9 rfl).2 _ rfl
                have h45 : x 45 = _ := (hdep 10 rfl).2 _ rfl
                have hL15 : L 15 = false := by cases h15 : L 15 with | false => rfl | true => rw [(hG.2 h15).1 11 (by decide)] at hL; cases hL
                have hP := hG.1 hL15
                clear hdep
                simp only [h44, h45] at hK
                go_simp
                refine (CB.out _).mono ?_
                rintro e w7 ⟨rfl, rfl⟩
                exact hK _ _ ⟨fun _ => hP, fun h => (by rw [setL_ne (by decide), hL15] at h; cases h)⟩ trivial rfl
              · refine OpRel.plain rfl fun n L x wx K hn hL hG hdep hK => ?_
                have h46 : x 46 = _ := (hdep 11 rfl).2 _ rfl
                have hL15 : L 15 = false := by cases h15 : L 15 with | false => rfl | true => rw [(hG.2 h15).1 12 (by decide)] at hL; cases hL
                have hP := hG.1 hL15
                clear hdep
                simp only [h46] at hK
                go_simp
                refine (CS.out _).mono ?_
                rintro e w7 ⟨rfl, hb⟩
                exact hK _ _ ⟨fun _ => hP.tr hb, fun h => (by rw [setL_ne (by decide), hL15] at h; cases h)⟩ trivial rfl
              · refine OpRel.plain rfl fun n L x wx K hn hL hG hdep hK => ?_
                have h38 : x 38 = _ := (hdep 3 rfl).2 _ rfl
                have h47 : x 47 = _ := (hdep 12 rfl).2 _ rfl
                have hL15 : L 15 = false := by cases h15 : L 15 with | false => rfl | true => rw [(hG.2 h15).1 13 (by decide)] at hL; cases hL
                have hP := hG.1 hL15
                clear hdep; simp only [h38, h47] at hK; go_simp
                exact hK _ _ ⟨fun _ => hP, fun h => (by rw [setL_ne (by decide), hL15] at h; cases h)⟩ trivial rfl
              · refine OpRel.plain rfl fun n L x wx K hn hL hG hdep hK => ?_
                have h35 : x 35 = _ := (hdep 0 rfl).2 _ rfl
                have h36 : x 36 = _ := (hdep 1 rfl).2 _ rfl
                have hL15 : L 15 = false := by cases h15 : L 15 with | false => rfl | true => rw [(hG.2 h15).1 14 (by decide)] at hL; cases hL
                have hP := hG.1 hL15
                clear hdep; simp only [h35, h36] at hK; go_simp
                exact hK _ _ ⟨fun _ => hP, fun h => (by rw [setL_ne (by decide), hL15] at h; cases h)⟩ trivial rfl
              · refine OpRel.plain rfl fun n L x wx K hn hL hG hdep hK => ?_
                have hA : ∀ i, i < 15 → L i = true := fun i hi => match i, hi with | 0, _ => (hdep 0 rfl).1 | 1, _ => (hdep 1 rfl).1 | 2, _ => (hdep 2 rfl).1 | 3, _ => (hdep 3 rfl).1 | 4, _ => (hdep 4 rfl).1 | 5, _ => (hdep 5 rfl).1 | 6, _ => (hdep 6 rfl).1 | 7, _ => (hdep 7 rfl).1 | 8, _ => (hdep 8 rfl).1 | 9, _ => (hdep 9 rfl).1 | 10, _ => (hdep 10 rfl).1 | 11, _ => (hdep 11 rfl).1 | 12, _ => (hdep 12 rfl).1 | 13, _ => (hdep 13 rfl).1 | 14, _ => (hdep 14 rfl).1
                have hP := hG.1 hL
                have h48 : x 48 = _ := (hdep 13 rfl).2 _ rfl
                have h49 : x 49 = _ := (hdep 14 rfl).2 _ rfl
                clear hdep
                simp only [h48, h49] at hK
                have HO9 := Lib.hid (ownsRow_keep HO.out hP); have HW9 := Lib.hid (ownsRow_keep HW.out hP); have HL9 := Lib.hid (HLI.out.keep hP); have HB9 := Lib.hid (HB.out.tr hP)
                have z1 : wx.cell? ⟨b4', k, none⟩ = some (.int .i64 (a : Int)) := (hP.cell (p := ⟨b4', k, none⟩) hb4l).trans ca
                have z2 := HO9.out.frozenAt k
                have z3 := HO9.out.stored k (.int .i64 ((a : Int) + (sz : Int)))
                rw [fillS_set _ _ HDL.out hlt] at z3
                have hc4 := Chg.of_grown z3.2
                have HO10 := Lib.hid z3.1
                have HB10 := Lib.hid (hc4.below HB9.out (by omega))
                have HW10 := Lib.hid (ownsRow_low HW9.out hc4 (by omega))
                have HL10 := Lib.hid (HL9.out.chg hc4 (by omega))
                clear z3 hc4
                go_simp
                exact hK undef _ ⟨fun h => (by simp [setL] at h), fun _ => ⟨fun i hi => setL_tr 15 (hA i hi), HO10, HW10, HL10, HB10⟩⟩ trivial trivial
            case hend =>
              intro n' L x' wx _ hG hh
              obtain ⟨-, HO10, HW10, HL10, HB10⟩ := hG.2 (hh 15 (by decide)).1
              clear hG hh
              go_wp2_with fail
              go_roundw
              case rel => exact ⟨q + 1, a + sz, by omega, by go_num, HA2, by rw [Int.natCast_add]; exact HO10, HW10, HL10, HB10⟩
              case measure => simp [intOf]; omega
          · obtain rfl : q = ll := by omega
            have HA9 : Hid (a = A) := Lib.hid (by
              have h1 := HA.out
              rw [List.drop_of_length_le (by rw [HLL.out]; exact Nat.le_refl _)] at h1
              simpa using h1)
            have HO9 := Lib.hid (HO.out); rw [HA9.out, HSE.out] at HO9
            go_wp2_with fail
            go_roundw
            case rel => exact ⟨k + 1, by omega, by go_num, HO9, HW, HB⟩
            case measure => simp [intOf]; omega
      · obtain rfl : k = n := by omega
        have hall := fillI_all k D HDL.out
        have h9 := HO.out
        rw [hall] at h9
        have H9 := Lib.hid ((Ow.of_row h9).mono (show w.heap.size ≤ b4' by omega) (Nat.le_refl _))
        clear h9
        go_wp2_with fail
        go_ret
        exact ⟨_, rfl, by rw [HDL.out]; exact H9.out, HB.out⟩
end Go.Proofs.YtobhekkgbccoiaaDoor
