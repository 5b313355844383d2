/-
  Which graphs are valid: the program's function and the reference's.
-/
import Derived.Test.YtgdggkhdollieaaDoorGraph
import Derived.Test.YtgdggkhdollieaaDoorNum
import Derived.Test.YtgdggkhdollieaaDoorLib3
import Derived.Test.YtgdggkhdollieaaDoorRel
import Derived.Deep.RegionHeld3
namespace Go.Proofs.YtgdggkhdollieaaDoor
open Go.RowKit
set_option linter.unusedVariables false

/-- An edge comes before another one. -/
def Bef (a b : Tri) : Prop := a.1 < b.1 ∨ a.1 = b.1 ∧ a.2.1 < b.2.1
instance (a b : Tri) : Decidable (Bef a b) := by unfold Bef; infer_instance
/-- The k-th edge is as it must be; m1 is the greatest vertex. -/
def EdgeAt (m1 : Int) (ys : List Tri) (k : Nat) : Prop :=
  (0 ≤ (ys.getD k triZ).1 ∧ (ys.getD k triZ).1 ≤ m1) ∧ (0 ≤ (ys.getD k triZ).2.1 ∧ (ys.getD k triZ).2.1 ≤ m1) ∧ (ys.getD k triZ).1 ≠ (ys.getD k triZ).2.1 ∧
    (0 ≤ (ys.getD k triZ).2.2 ∧ (ys.getD k triZ).2.2 ≤ 20) ∧ (0 < k → Bef (ys.getD (k - 1) triZ) (ys.getD k triZ))
instance (m1 : Int) (ys : List Tri) (k : Nat) : Decidable (EdgeAt m1 ys k) := by unfold EdgeAt; infer_instance
def GraphOk (g : GraphD) : Prop := (0 ≤ g.1 ∧ g.1 ≤ 16) ∧ g.2.length ≤ 40 ∧ ∀ k, k < g.2.length → EdgeAt (g.1 - 1) g.2 k
instance (g : GraphD) : Decidable (GraphOk g) := by unfold GraphOk; infer_instance
def graphOk (g : GraphD) : Bool := decide (GraphOk g)
theorem graphOk_yes {g : GraphD} (h : graphOk g = true) : GraphOk g := of_decide_eq_true h
theorem graphOk_many {g : GraphD} (h : ¬ (0 ≤ g.1 ∧ g.1 ≤ 16)) : graphOk g = false := decide_eq_false fun k => h k.1
theorem graphOk_len {g : GraphD} (h : 40 < g.2.length) : graphOk g = false := decide_eq_false fun k => by have := k.2.1; omega
theorem graphOk_edge {g : GraphD} {k : Nat} (hk : k < g.2.length) (h : ¬ EdgeAt (g.1 - 1) g.2 k) : graphOk g = false := decide_eq_false fun q => h (q.2.2 k hk)

/-- The order of two numbers, as a number. -/
def cmpI (x y : Int) : Int := if x < y then -1 else if y < x then 1 else 0
def cmpEnds (a b : Tri) : Int := if cmpI a.1 b.1 = 0 then cmpI a.2.1 b.2.1 else cmpI a.1 b.1
theorem cmpEnds_bef (a b : Tri) : cmpEnds a b < 0 ↔ Bef a b := by
  unfold cmpEnds cmpI Bef
  repeat' split
  all_goals omega

theorem isNaN_any (x : Int) (w : World) : Calls Tryd.prog 42 #[.int .i64 x] w fun e w' => e = .returned (.bool false) ∧ w = w' := by
  go_enter Tryd.func42, Tryd.ntmps42
  go_wp2
  go_ret
  exact ⟨rfl, rfl⟩
theorem compare_any (x y : Int) (w : World) : Calls Tryd.prog 37 #[.int .i64 x, .int .i64 y] w fun e w' => e = .returned (.int .i64 (cmpI x y)) ∧ w = w' := by
  unfold cmpI
  by_cases h1 : x < y
  · rw [if_pos h1]
    go_enter Tryd.func37, Tryd.ntmps37
    go_wp2_with (go_at_call 42; refine (isNaN_any _ _).mono ?_; rintro e w' ⟨rfl, rfl⟩)
    go_ret
    exact ⟨rfl, rfl⟩
  · rw [if_neg h1]
    by_cases h2 : y < x
    · rw [if_pos h2]
      go_enter Tryd.func37, Tryd.ntmps37
      go_wp2_with (go_at_call 42; refine (isNaN_any _ _).mono ?_; rintro e w' ⟨rfl, rfl⟩)
      go_ret
      exact ⟨rfl, rfl⟩
    · rw [if_neg h2]
      go_enter Tryd.func37, Tryd.ntmps37
      go_wp2_with (go_at_call 42; refine (isNaN_any _ _).mono ?_; rintro e w' ⟨rfl, rfl⟩)
      go_ret
      exact ⟨rfl, rfl⟩
set_option maxRecDepth 100000 in
set_option maxHeartbeats 1000000 in
/-- The first of two numbers that is not 0. -/
theorem or2_any (p q : Int) (w : World) (b c : Nat) (h0 : w.cell? ⟨b, 0, none⟩ = some (.int .i64 p)) (h1 : w.cell? ⟨b, 1, none⟩ = some (.int .i64 q)) (hc : 2 ≤ c) :
    Calls Tryd.prog 36 #[.slice (some ⟨b, 0, none⟩) 2 c] w fun e w' => e = .returned (.int .i64 (if p = 0 then q else p)) ∧ w = w' := by
  by_cases hp : p = 0
  · rw [if_pos hp]
    have tp : (p == 0) = true := by simp [hp]
    by_cases hq : q = 0
    · have tq : (q == 0) = true := by simp [hq]
      rw [hq] at h1 ⊢
      rw [hp] at h0
      go_enter Tryd.func36, Tryd.ntmps36
      go_wp2_with fail
      refine wp_loop_rounds 3 ?_
      rw [rounds_succ]
      go_wp2_with fail
      rw [rounds_succ]
      go_wp2_with fail
      rw [rounds_succ]
      go_wp2_with fail
      go_ret
      exact ⟨rfl, rfl⟩
    · have tq : (q == 0) = false := by simp [hq]
      rw [hp] at h0
      go_enter Tryd.func36, Tryd.ntmps36
      go_wp2_with fail
      refine wp_loop_rounds 2 ?_
      rw [rounds_succ]
      go_wp2_with fail
      rw [rounds_succ]
      go_wp2_with fail
      go_ret
      exact ⟨rfl, rfl⟩
  · rw [if_neg hp]
    have tp : (p == 0) = false := by simp [hp]
    go_enter Tryd.func36, Tryd.ntmps36
    go_wp2_with fail
    refine wp_loop_rounds 1 ?_
    rw [rounds_succ]
    go_wp2_with fail
    go_ret
    exact ⟨rfl, rfl⟩
/-- Two ints in a block of their own. -/
def two (p q : Int) : Value → World → Prop := fun v w => ∃ b, v = .slice (some ⟨b, 0, none⟩) 2 2 ∧ w.heap[b]? = some (.cells #[.int .i64 p, .int .i64 q] 3 (0, 0))
theorem stab_two (p q : Int) : Stab (fun w w' => Below w.heap.size w w') (two p q) := fun _ _ _ hr ⟨b, h1, h2⟩ => ⟨b, h1, box_keep h2 hr⟩
set_option maxRecDepth 100000 in
set_option maxHeartbeats 1000000 in
theorem compareEnds_any (a0 a1 a2 b0 b1 b2 : Int) (w : World) :
    Calls Tryd.prog 25 #[.agg #[.int .i64 a0, .int .i64 a1, .int .i64 a2], .agg #[.int .i64 b0, .int .i64 b1, .int .i64 b2]] w fun e w' =>
      e = .returned (.int .i64 (cmpEnds (a0, a1, a2) (b0, b1, b2))) ∧ Below w.heap.size w w' := by
  have hv : cmpEnds (a0, a1, a2) (b0, b1, b2) = if cmpI a0 b0 = 0 then cmpI a1 b1 else cmpI a0 b0 := rfl
  rw [hv]
  have C0 := Lib.hid fun wx => compare_any a0 b0 wx
  have C1 := Lib.hid fun wx => compare_any a1 b1 wx
  generalize cmpI a0 b0 = p at *
  generalize cmpI a1 b1 = q at *
  clear hv
  obtain ⟨r, hr⟩ : ∃ r, r = if p = 0 then q else p := ⟨_, rfl⟩
  rw [← hr]
  have HRR := Lib.hid hr; clear hr
  go_enter Tryd.func25, Tryd.ntmps25
  go_wp2_with fail
  have HB : Hid (Below w.heap.size w ((w.alloc (.cells #[.int .i64 a0, .int .i64 a1, .int .i64 a2] 34)).alloc (.cells #[.int .i64 b0, .int .i64 b1, .int .i64 b2] 34))) := Lib.hid (by go_grown)
  have X0 := box_alloc (heap_alloc_new w (.cells #[.int .i64 a0, .int .i64 a1, .int .i64 a2] 34)) (.cells #[.int .i64 b0, .int .i64 b1, .int .i64 b2] 34)
  have X1 := heap_alloc_new (w.alloc (.cells #[.int .i64 a0, .int .i64 a1, .int .i64 a2] 34)) (.cells #[.int .i64 b0, .int .i64 b1, .int .i64 b2] 34)
  simp only [World.size_alloc] at X1
  generalize ((w.alloc (.cells #[.int .i64 a0, .int .i64 a1, .int .i64 a2] 34)).alloc (.cells #[.int .i64 b0, .int .i64 b1, .int .i64 b2] 34)) = w1 at *
  have k0 := box_cell X0 0 _ rfl; have k1 := box_cell X0 1 _ rfl
  have l0 := box_cell X1 0 _ rfl; have l1 := box_cell X1 1 _ rfl
  clear X0 X1
  have hB : w.heap.size + 1 < w1.heap.size := World.block_lt_of_cell? w1 _ l0
  refine wp_region_rel (fun x => { tmps := #[.agg #[.int .i64 a0, .int .i64 a1, .int .i64 a2], .agg #[.int .i64 b0, .int .i64 b1, .int .i64 b2], .pointer (some ⟨w.heap.size, 0, none⟩), .pointer (some ⟨w.heap.size + 1, 0, none⟩), x 4, x 5, x 6, x 7, x 8, x 9, x 10, x 11, x 12, x 13, x 14, x 15, x 16], defers := [] })
    (fun k => if k = 4 then .int .i64 0 else undef) (fun _ _ wx => Below w1.heap.size w1 wx) (fun _ wx wy => Below wx.heap.size wx wy)
    (Tl [cst (.pointer (some ⟨w.heap.size, 0, none⟩)), cst (.int .i64 a0), cst (.pointer (some ⟨w.heap.size + 1, 0, none⟩)), cst (.int .i64 b0), cst (.int .i64 p),
      cst (.pointer (some ⟨w.heap.size, 1, none⟩)), cst (.int .i64 a1), cst (.pointer (some ⟨w.heap.size + 1, 1, none⟩)), cst (.int .i64 b1), cst (.int .i64 q),
      two p q, cst (.int .i64 r), cst (.int .i64 r)])
    (by kernel_rfl) (by kernel_rfl) (by kernel_rfl) (stab_Tl ?hst) (fun _ wx => Below.refl _ wx) (Below.refl _ _).drew ?hput ?hop ?hend
  case hst =>
    simp only [List.mem_cons, List.not_mem_nil, or_false, forall_eq_or_imp, forall_eq]
    refine ⟨?_, ?_, ?_, ?_, ?_, ?_, ?_, ?_, ?_, ?_, ?_, ?_, ?_⟩
    all_goals first | exact stab_cst _ _ | exact stab_two _ _
  case hput =>
    refine ⟨?_, ?_, ?_, ?_, ?_, ?_, ?_, ?_, ?_, ?_, ?_, ?_, ?_, trivial⟩
    all_goals exact fun x v => rfl
  case hop =>
    refine ⟨?_, ?_, ?_, ?_, ?_, ?_, ?_, ?_, ?_, ?_, ?_, ?_, ?_, trivial⟩
    · refine OpRel.plain rfl fun n L x wx K hn _ hG hdep hK => ?_
      clear hdep; go_simp
      exact hK _ _ hG (Below.refl _ _) rfl
    · refine OpRel.plain rfl fun n L x wx K hn _ hG hdep hK => ?_
      have h5 : x 5 = _ := (hdep 0 rfl).2 _ rfl
      have z := (hG.cell (p := ⟨w.heap.size, 0, none⟩) (by simp; omega)).trans k0
      clear hdep; simp only [h5] at hK; go_simp
      exact hK _ _ hG (Below.refl _ _) rfl
    · refine OpRel.plain rfl fun n L x wx K hn _ hG hdep hK => ?_
      clear hdep; go_simp
      exact hK _ _ hG (Below.refl _ _) rfl
    · refine OpRel.plain rfl fun n L x wx K hn _ hG hdep hK => ?_
      have h5 : x 7 = _ := (hdep 2 rfl).2 _ rfl
      have z := (hG.cell (p := ⟨w.heap.size + 1, 0, none⟩) (by simp; omega)).trans l0
      clear hdep; simp only [h5] at hK; go_simp
      exact hK _ _ hG (Below.refl _ _) rfl
    · refine OpRel.plain rfl fun n L x wx K hn _ hG hdep hK => ?_
      have h6 : x 6 = _ := (hdep 1 rfl).2 _ rfl
      have h8 : x 8 = _ := (hdep 3 rfl).2 _ rfl
      clear hdep; simp only [h6, h8] at hK; go_simp
      refine (C0.out _).mono ?_
      rintro e w2 ⟨rfl, rfl⟩
      exact hK _ _ hG (Below.refl _ _) rfl
    · refine OpRel.plain rfl fun n L x wx K hn _ hG hdep hK => ?_
      clear hdep; go_simp
      exact hK _ _ hG (Below.refl _ _) rfl
    · refine OpRel.plain rfl fun n L x wx K hn _ hG hdep hK => ?_
      have h5 : x 10 = _ := (hdep 5 rfl).2 _ rfl
      have z := (hG.cell (p := ⟨w.heap.size, 1, none⟩) (by simp; omega)).trans k1
      clear hdep; simp only [h5] at hK; go_simp
      exact hK _ _ hG (Below.refl _ _) rfl
    · refine OpRel.plain rfl fun n L x wx K hn _ hG hdep hK => ?_
      clear hdep; go_simp
      exact hK _ _ hG (Below.refl _ _) rfl
    · refine OpRel.plain rfl fun n L x wx K hn _ hG hdep hK => ?_
      have h5 : x 12 = _ := (hdep 7 rfl).2 _ rfl
      have z := (hG.cell (p := ⟨w.heap.size + 1, 1, none⟩) (by simp; omega)).trans l1
      clear hdep; simp only [h5] at hK; go_simp
      exact hK _ _ hG (Below.refl _ _) rfl
    · refine OpRel.plain rfl fun n L x wx K hn _ hG hdep hK => ?_
      have h6 : x 11 = _ := (hdep 6 rfl).2 _ rfl
      have h8 : x 13 = _ := (hdep 8 rfl).2 _ rfl
      clear hdep; simp only [h6, h8] at hK; go_simp
      refine (C1.out _).mono ?_
      rintro e w2 ⟨rfl, rfl⟩
      exact hK _ _ hG (Below.refl _ _) rfl
    · refine OpRel.plain rfl fun n L x wx K hn _ hG hdep hK => ?_
      have h6 : x 9 = _ := (hdep 4 rfl).2 _ rfl
      have h8 : x 14 = _ := (hdep 9 rfl).2 _ rfl
      clear hdep; simp only [h6, h8] at hK; go_simp
      have hb := (Below.refl wx.heap.size wx).alloc (Nat.le_refl _) (.cells #[.int .i64 p, .int .i64 q] 3)
      exact hK _ _ (hG.trans (hb.mono hG.size)) hb ⟨wx.heap.size, rfl, heap_alloc_new _ _⟩
    · refine OpRel.plain rfl fun n L x wx K hn _ hG hdep hK => ?_
      obtain ⟨b, h6, hbl⟩ := (hdep 10 rfl).2 _ rfl
      clear hdep; simp only [h6] at hK; go_simp
      have hor := or2_any p q wx b 2 (box_cell hbl 0 _ rfl) (box_cell hbl 1 _ rfl) (Nat.le_refl _)
      rw [← HRR.out] at hor
      refine hor.mono ?_
      rintro e w2 ⟨rfl, rfl⟩
      exact hK _ _ hG (Below.refl _ _) rfl
    · refine OpRel.plain rfl fun n L x wx K hn _ hG hdep hK => ?_
      have h6 : x 16 = _ := (hdep 11 rfl).2 _ rfl
      clear hdep; simp only [h6] at hK; go_simp
      exact hK _ _ hG (Below.refl _ _) rfl
  case hend =>
    intro n L x wx _ hG hh
    have h4 : x 4 = _ := (hh 12 (by decide)).2 _ rfl
    clear hh
    simp only [h4]
    have HC := Lib.hid hG
    clear hG h4
    go_wp2_with fail
    go_ret
    exact ⟨rfl, HB.out.tr HC.out⟩
theorem has_any (m x : Int) (a : Option Addr) (n c : Nat) (w : World) :
    Calls Tryd.prog 14 #[.agg #[.int .i64 m, .slice a n c], .int .i64 x] w fun e w' => e = .returned (.bool (decide (0 ≤ x ∧ x < m))) ∧ w' = w.alloc (.cells #[.int .i64 m, .slice a n c] 25) := by
  by_cases h1 : 0 ≤ x
  · by_cases h2 : x < m
    · have h3 : decide (0 ≤ x ∧ x < m) = true := by simp [h1, h2]
      rw [h3]
      go_enter Tryd.func14, Tryd.ntmps14
      go_wp2_with fail
      go_ret
      exact ⟨rfl, rfl⟩
    · have h3 : decide (0 ≤ x ∧ x < m) = false := by simp [h2]
      rw [h3]
      go_enter Tryd.func14, Tryd.ntmps14
      go_wp2_with fail
      go_ret
      exact ⟨rfl, rfl⟩
  · have h3 : decide (0 ≤ x ∧ x < m) = false := by simp [h1]
    rw [h3]
    go_enter Tryd.func14, Tryd.ntmps14
    go_wp2_with fail
    go_ret
    exact ⟨rfl, rfl⟩

theorem has_is (m x : Int) (a : Option Addr) (n c : Nat) (w : World) (b : Bool) (hb : decide (0 ≤ x ∧ x < m) = b) :
    Calls Tryd.prog 14 #[.agg #[.int .i64 m, .slice a n c], .int .i64 x] w fun e w' => e = .returned (.bool b) ∧ w' = w.alloc (.cells #[.int .i64 m, .slice a n c] 25) := by
  rw [← hb]; exact has_any m x a n c w
/-- Which way a test of an edge ends. -/
theorem edge_cases {m1 : Int} {ys : List Tri} {k : Nat} (a0 a1 a2 : Int) (p : Tri) (ht : ys.getD k triZ = (a0, a1, a2)) (hp : ys.getD (k - 1) triZ = p) :
    (¬ EdgeAt m1 ys k ∧ ¬ (0 ≤ a0 ∧ a0 ≤ m1)) ∨ (¬ EdgeAt m1 ys k ∧ (0 ≤ a0 ∧ a0 ≤ m1) ∧ ¬ (0 ≤ a1 ∧ a1 ≤ m1)) ∨ (¬ EdgeAt m1 ys k ∧ (0 ≤ a0 ∧ a0 ≤ m1) ∧ (0 ≤ a1 ∧ a1 ≤ m1) ∧ a0 = a1) ∨
    (¬ EdgeAt m1 ys k ∧ (0 ≤ a0 ∧ a0 ≤ m1) ∧ (0 ≤ a1 ∧ a1 ≤ m1) ∧ a0 ≠ a1 ∧ a2 < 0) ∨ (¬ EdgeAt m1 ys k ∧ (0 ≤ a0 ∧ a0 ≤ m1) ∧ (0 ≤ a1 ∧ a1 ≤ m1) ∧ a0 ≠ a1 ∧ 0 ≤ a2 ∧ 20 < a2) ∨
    (¬ EdgeAt m1 ys k ∧ (0 ≤ a0 ∧ a0 ≤ m1) ∧ (0 ≤ a1 ∧ a1 ≤ m1) ∧ a0 ≠ a1 ∧ 0 ≤ a2 ∧ a2 ≤ 20 ∧ 0 < k ∧ ¬ Bef p (a0, a1, a2)) ∨
    (EdgeAt m1 ys k ∧ (0 ≤ a0 ∧ a0 ≤ m1) ∧ (0 ≤ a1 ∧ a1 ≤ m1) ∧ a0 ≠ a1 ∧ 0 ≤ a2 ∧ a2 ≤ 20 ∧ k = 0) ∨
    (EdgeAt m1 ys k ∧ (0 ≤ a0 ∧ a0 ≤ m1) ∧ (0 ≤ a1 ∧ a1 ≤ m1) ∧ a0 ≠ a1 ∧ 0 ≤ a2 ∧ a2 ≤ 20 ∧ 0 < k ∧ Bef p (a0, a1, a2)) := by
  unfold EdgeAt
  rw [ht, hp]
  simp only
  by_cases h1 : 0 ≤ a0 ∧ a0 ≤ m1
  · by_cases h2 : 0 ≤ a1 ∧ a1 ≤ m1
    · by_cases h3 : a0 = a1
      · simp [h2, h3]
      · by_cases h4 : a2 < 0
        · simp [h1, h2, h3, h4]; omega
        · by_cases h5 : 20 < a2
          · simp [h1, h2, h3, h4, h5]; omega
          · by_cases h6 : 0 < k
            · by_cases h7 : Bef p (a0, a1, a2)
              · simp [h1, h2, h3, h4, h5, h6, h7]; omega
              · simp [h1, h2, h3, h4, h5, h6, h7]; omega
            · simp [h1, h2, h3, h4, h5, h6]; omega
    · simp [h1, h2]
  · simp [h1]

set_option maxRecDepth 100000 in
set_option maxHeartbeats 4000000 in
theorem implGraphValid_any (w : World) (va : Value) (g : GraphD) (h : RdGraph w va g) :
    Calls Tryd.prog 13 #[va] w fun e w' => e = .returned (.bool (graphOk g)) ∧ Below w.heap.size w w' := by
  obtain ⟨a, c, rfl, hr, hc, hmx⟩ := h.form
  clear h
  obtain ⟨m, ys⟩ := g
  simp only at hr hc ⊢
  have HR : Hid (Rd w 3 (.slice a ys.length c) ys.length (tris ys)) := Lib.hid hr
  clear hr
  by_cases h1 : m < 0
  · rw [graphOk_many (by simp; omega)]
    have t1 : decide (m < 0) = true := by simp; omega
    go_enter Tryd.func13, Tryd.ntmps13
    go_wp2_with fail
    go_ret
    exact ⟨rfl, by go_grown⟩
  have t1 : decide (m < 0) = false := by simp; omega
  by_cases h2 : 16 < m
  · rw [graphOk_many (by simp; omega)]
    have t2 : decide (16 < m) = true := by simp; omega
    go_enter Tryd.func13, Tryd.ntmps13
    go_wp2_with fail
    go_ret
    exact ⟨rfl, by go_grown⟩
  have t2 : decide (16 < m) = false := by simp; omega
  by_cases h3 : 40 < ys.length
  · rw [graphOk_len (by simp; omega)]
    have t3 : decide (40 < ys.length) = true := by simp; omega
    go_enter Tryd.func13, Tryd.ntmps13
    go_wp2_with fail
    go_ret
    exact ⟨rfl, by go_grown⟩
  have t3 : decide (40 < ys.length) = false := by simp; omega
  have HNO := Lib.hid fun k (hk : k < ys.length) (h : ¬ EdgeAt (m - 1) ys k) => graphOk_edge (g := (m, ys)) hk h
  have HYES : Hid ((∀ k, k < ys.length → EdgeAt (m - 1) ys k) → graphOk (m, ys) = true) := Lib.hid fun h => decide_eq_true ⟨⟨by simp; omega, by simp; omega⟩, by simp; omega, h⟩
  generalize graphOk (m, ys) = bo at *
  generalize hn : ys.length = n at *
  have HN := Lib.hid hn; clear hn
  have HB : Hid (Below w.heap.size w (w.alloc (.cells #[.int .i64 m, .slice a n c] 25))) := Lib.hid ((Below.refl _ _).alloc (Nat.le_refl _) _)
  have X := Lib.hid (heap_alloc_new w (.cells #[.int .i64 m, .slice a n c] 25))
  go_enter Tryd.func13, Tryd.ntmps13
  go_wp2_with fail
  clear t1 t2 t3
  generalize (w.alloc (.cells #[.int .i64 m, .slice a n c] 25)) = w0 at *
  go_loopw [22] (fun i wr => ∃ k : Nat, k ≤ n ∧ i = .int .i64 k ∧ Hid (Below w.heap.size w wr) ∧ Hid (wr.heap[w.heap.size]? = some (.cells #[.int .i64 m, .slice a n c] 25 (0, 0))) ∧ Hid (∀ j, j < k → EdgeAt (m - 1) ys j)) (fun i _ => n - (intOf i).toNat)
  case atStart => exact ⟨0, Nat.zero_le _, rfl, HB, X, Lib.hid fun j hj => by omega⟩
  case round =>
    clear HB X
    obtain ⟨k, hk, rfl, HB, X, HE⟩ := hrel
    by_cases hlt : k < n
    · obtain ⟨b1, o1, rfl, hb1, c0, c1, c2⟩ := (HR.out.keep HB.out).tri hlt
      have HPV : Hid (0 < k → ∀ b2 o2, (some (⟨b1, o1, none⟩ : Addr)) = some ⟨b2, o2, none⟩ → wr.cell? ⟨b2, o2 + (k - 1) * 3, none⟩ = some (.int .i64 (ys.getD (k - 1) triZ).1) ∧ wr.cell? ⟨b2, o2 + (k - 1) * 3 + 1, none⟩ = some (.int .i64 (ys.getD (k - 1) triZ).2.1) ∧ wr.cell? ⟨b2, o2 + (k - 1) * 3 + 2, none⟩ = some (.int .i64 (ys.getD (k - 1) triZ).2.2)) := Lib.hid fun hk0 b2 o2 e => by
        obtain ⟨b3, o3, e3, _, d0, d1, d2⟩ := (HR.out.keep HB.out).tri (k := k - 1) (by omega)
        rw [e] at e3
        simp only [Option.some.injEq, Addr.mk.injEq, and_true] at e3
        obtain ⟨rfl, rfl⟩ := e3
        exact ⟨d0, d1, d2⟩
      have HEC := Lib.hid (edge_cases (m1 := m - 1) (ys := ys) (k := k) (ys.getD k triZ).1 (ys.getD k triZ).2.1 (ys.getD k triZ).2.2 _ rfl rfl)
      have HNK := Lib.hid (HNO.out k (by omega))
      generalize (ys.getD k triZ).1 = ta at *
      generalize (ys.getD k triZ).2.1 = tb at *
      generalize (ys.getD k triZ).2.2 = tc at *
      have k0 := box_cell X.out 0 _ rfl; have k1 := box_cell X.out 1 _ rfl
      have hxlt := box_lt X.out
      rcases HEC.out with ⟨hne, q1⟩ | ⟨hne, q1, q2⟩ | ⟨hne, q1, q2, q3⟩ | ⟨hne, q1, q2, q3, q4⟩ | ⟨hne, q1, q2, q3, q4, q5⟩ | ⟨hne, q1, q2, q3, q4, q5, q6, q7⟩ | ⟨hne, q1, q2, q3, q4, q5, q6⟩ | ⟨hne, q1, q2, q3, q4, q5, q6, q7⟩
      · have E1 := Lib.hid (show decide (0 ≤ ta ∧ ta < m) = false by simp; omega)
        have hbo := HNK.out hne; subst hbo
        clear q1 HEC HPV HNK HYES HNO
        go_wp2_with (go_at_call 14; refine (has_any m _ _ _ _ _).mono ?_; rw [E1.out]; rintro e w9 ⟨rfl, rfl⟩)
        go_ret
        exact ⟨rfl, HB.out.tr (by go_grown)⟩
      · have E1 := Lib.hid (show decide (0 ≤ ta ∧ ta < m) = true by simp; omega)
        have E2 := Lib.hid (show decide (0 ≤ tb ∧ tb < m) = false by simp; omega)
        have hbo := HNK.out hne; subst hbo
        clear q1 q2 HEC HPV HNK HYES HNO
        go_wp2_with (go_at_call 14; refine (has_any m _ _ _ _ _).mono ?_; (first | rw [E1.out] | rw [E2.out]); rintro e w9 ⟨rfl, rfl⟩)
        go_ret
        exact ⟨rfl, HB.out.tr (by go_grown)⟩
      · have E1 := Lib.hid (show decide (0 ≤ ta ∧ ta < m) = true by simp; omega)
        have E2 := Lib.hid (show decide (0 ≤ tb ∧ tb < m) = true by simp; omega)
        have e3 : (ta == tb) = true := by simp; exact q3
        have hbo := HNK.out hne; subst hbo
        clear q1 q2 q3 HEC HPV HNK HYES HNO
        go_wp2_with (go_at_call 14; refine (has_any m _ _ _ _ _).mono ?_; (first | rw [E1.out] | rw [E2.out]); rintro e w9 ⟨rfl, rfl⟩)
        go_ret
        exact ⟨rfl, HB.out.tr (by go_grown)⟩
      all_goals
        have E1 := Lib.hid (show decide (0 ≤ ta ∧ ta < m) = true by simp; omega)
        have E2 := Lib.hid (show decide (0 ≤ tb ∧ tb < m) = true by simp; omega)
        have e3 : (ta == tb) = false := by simp; exact q3
      iterate 2
        · first | (have e4 : decide (tc < 0) = true := (by simp; omega)) | (have e4 : decide (tc < 0) = false := (by simp; omega); have e5 : decide (20 < tc) = true := (by simp; omega))
          have hbo := HNK.out hne; subst hbo
          clear q1 q2 q3 HEC HPV HNK HYES HNO
          go_wp2_with (go_at_call 14; refine (has_any m _ _ _ _ _).mono ?_; (first | rw [E1.out] | rw [E2.out]); rintro e w9 ⟨rfl, rfl⟩)
          go_ret
          exact ⟨rfl, HB.out.tr (by go_grown)⟩
      all_goals
        have e4 : decide (tc < 0) = false := by simp; omega
        have e5 : decide (20 < tc) = false := by simp; omega
        have HB3 := Lib.hid (HB.out.tr (show Below wr.heap.size wr (((wr.alloc (.cells #[.int .i64 ta, .int .i64 tb, .int .i64 tc] 34)).alloc (.cells #[.int .i64 m, .slice (some ⟨b1, o1, none⟩) n c] 25)).alloc (.cells #[.int .i64 m, .slice (some ⟨b1, o1, none⟩) n c] 25)) by go_grown))
        have X3 := Lib.hid (box_alloc (box_alloc (box_alloc X.out (.cells #[.int .i64 ta, .int .i64 tb, .int .i64 tc] 34)) (.cells #[.int .i64 m, .slice (some ⟨b1, o1, none⟩) n c] 25)) (.cells #[.int .i64 m, .slice (some ⟨b1, o1, none⟩) n c] 25))
        have E3 := Lib.hid (box_alloc (box_alloc (heap_alloc_new wr (.cells #[.int .i64 ta, .int .i64 tb, .int .i64 tc] 34)) (.cells #[.int .i64 m, .slice (some ⟨b1, o1, none⟩) n c] 25)) (.cells #[.int .i64 m, .slice (some ⟨b1, o1, none⟩) n c] 25))
        have hs3 : (((wr.alloc (.cells #[.int .i64 ta, .int .i64 tb, .int .i64 tc] 34)).alloc (.cells #[.int .i64 m, .slice (some ⟨b1, o1, none⟩) n c] 25)).alloc (.cells #[.int .i64 m, .slice (some ⟨b1, o1, none⟩) n c] 25)).heap.size = wr.heap.size + 3 := by simp
        have hb3 : b1 < (((wr.alloc (.cells #[.int .i64 ta, .int .i64 tb, .int .i64 tc] 34)).alloc (.cells #[.int .i64 m, .slice (some ⟨b1, o1, none⟩) n c] 25)).alloc (.cells #[.int .i64 m, .slice (some ⟨b1, o1, none⟩) n c] 25)).heap.size := by omega
        have HBW := Lib.hid (show Below wr.heap.size wr (((wr.alloc (.cells #[.int .i64 ta, .int .i64 tb, .int .i64 tc] 34)).alloc (.cells #[.int .i64 m, .slice (some ⟨b1, o1, none⟩) n c] 25)).alloc (.cells #[.int .i64 m, .slice (some ⟨b1, o1, none⟩) n c] 25)) by go_grown)
        clear q1 q2 q3 q4 q5 HEC
      · have t6 : decide (0 < k) = true := by simp; omega
        have hbo := HNK.out hne; subst hbo
        go_wp2_with (go_at_call 14; refine (has_any m _ _ _ _ _).mono ?_; (first | rw [E1.out] | rw [E2.out]); rintro e w9 ⟨rfl, rfl⟩)
        generalize (((wr.alloc (.cells #[.int .i64 ta, .int .i64 tb, .int .i64 tc] 34)).alloc (.cells #[.int .i64 m, .slice (some ⟨b1, o1, none⟩) n c] 25)).alloc (.cells #[.int .i64 m, .slice (some ⟨b1, o1, none⟩) n c] 25)) = w3 at *
        obtain ⟨d0, d1, d2⟩ := HPV.out q6 b1 o1 rfl
        have HCE := Lib.hid (compareEnds_any (ys.getD (k - 1) triZ).1 (ys.getD (k - 1) triZ).2.1 (ys.getD (k - 1) triZ).2.2 ta tb tc)
        have hcv := cmpEnds_bef (ys.getD (k - 1) triZ) (ta, tb, tc)
        have hcv2 : cmpEnds (ys.getD (k - 1) triZ) (ta, tb, tc) < 0 ↔ Bef (ys.getD (k - 1) triZ) (ta, tb, tc) := hcv
        change Hid (∀ w : World, Calls Tryd.prog 25 _ w fun e w' => e = .returned (.int .i64 (cmpEnds (ys.getD (k - 1) triZ) (ta, tb, tc))) ∧ Below w.heap.size w w') at HCE
        generalize cmpEnds (ys.getD (k - 1) triZ) (ta, tb, tc) = cv at *
        have t7 : decide (0 ≤ cv) = true := by have := mt hcv2.1 q7; simp; omega
        clear hcv hcv2 q7
        generalize (ys.getD (k - 1) triZ).1 = pa at *
        generalize (ys.getD (k - 1) triZ).2.1 = pb at *
        generalize (ys.getD (k - 1) triZ).2.2 = pc at *
        clear HPV
        generalize hj : k - 1 = j at *
        have hwj : IntKind.i64.wrap ((k : Int) - 1) = (j : Int) := by rw [IntWalk.i64_in _ (by omega)]; omega
        have hjn : (j : Int) < (n : Int) := by omega
        replace hj := Lib.hid hj
        have hx3 : w.heap.size < w3.heap.size := by omega
        have he3 : wr.heap.size < w3.heap.size := by omega
        have g0 := fun p => GrownW.cell (B := w3.heap.size) (box_cell X3.out 1 (.slice (some ⟨b1, o1, none⟩) n c) rfl) hx3 p
        have g1 := fun p => GrownW.cell (B := w3.heap.size) (box_cell E3.out 0 (.int .i64 ta) rfl) he3 p
        have g2 := fun p => GrownW.cell (B := w3.heap.size) (box_cell E3.out 1 (.int .i64 tb) rfl) he3 p
        have g3 := fun p => GrownW.cell (B := w3.heap.size) (box_cell E3.out 2 (.int .i64 tc) rfl) he3 p
        have g4 := fun p => GrownW.cell (B := w3.heap.size) ((HBW.out.cell (p := ⟨b1, o1 + j * 3, none⟩) hb1).trans d0) hb3 p
        have g5 := fun p => GrownW.cell (B := w3.heap.size) ((HBW.out.cell (p := ⟨b1, o1 + j * 3 + 1, none⟩) hb1).trans d1) hb3 p
        have g6 := fun p => GrownW.cell (B := w3.heap.size) ((HBW.out.cell (p := ⟨b1, o1 + j * 3 + 2, none⟩) hb1).trans d2) hb3 p
        clear d0 d1 d2 c0 c1 c2 k0 k1
        refine wp_region_grown w3.heap.size (by kernel_rfl) (by kernel_rfl) ?_
        repeat (go_big_quiet_step ((go_at_call 25; exact GrownW.call (Nat.le_refl _) (HCE.out _))))
        refine wpQuiet_done ?_
        intro w9 hb9
        replace X3 := Lib.hid (box_keep X3.out hb9); replace HB3 := Lib.hid (HB3.out.tr hb9)
        clear hb9 g0 g1 g2 g3 g4 g5 g6 t6 t7 hwj HCE E3 HBW hb3 X
        go_wp2_with fail
        go_ret
        exact ⟨rfl, HB3.out⟩
      · have t6 : decide (0 < k) = false := by simp; omega
        clear q6
        go_wp2_with (go_at_call 14; refine (has_any m _ _ _ _ _).mono ?_; (first | rw [E1.out] | rw [E2.out]); rintro e w9 ⟨rfl, rfl⟩)
        generalize (((wr.alloc (.cells #[.int .i64 ta, .int .i64 tb, .int .i64 tc] 34)).alloc (.cells #[.int .i64 m, .slice (some ⟨b1, o1, none⟩) n c] 25)).alloc (.cells #[.int .i64 m, .slice (some ⟨b1, o1, none⟩) n c] 25)) = w3 at *
        clear HPV c0 c1 c2 k0 k1
        refine wp_region_grown w3.heap.size (by kernel_rfl) (by kernel_rfl) ?_
        repeat (go_big_quiet_step (fail))
        refine wpQuiet_done ?_
        intro w9 hb9
        replace X3 := Lib.hid (box_keep X3.out hb9); replace HB3 := Lib.hid (HB3.out.tr hb9)
        clear hb9 t6 E3 HBW hb3 X
        go_wp2_with fail
        go_roundw
        case rel => exact ⟨k + 1, by omega, by go_num, HB3, X3, Lib.hid fun i hi => by rcases Nat.lt_succ_iff_lt_or_eq.1 hi with h | rfl; exact HE.out i h; exact hne⟩
        case measure => simp [intOf]; omega
      · have t6 : decide (0 < k) = true := by simp; omega
        skip
        go_wp2_with (go_at_call 14; refine (has_any m _ _ _ _ _).mono ?_; (first | rw [E1.out] | rw [E2.out]); rintro e w9 ⟨rfl, rfl⟩)
        generalize (((wr.alloc (.cells #[.int .i64 ta, .int .i64 tb, .int .i64 tc] 34)).alloc (.cells #[.int .i64 m, .slice (some ⟨b1, o1, none⟩) n c] 25)).alloc (.cells #[.int .i64 m, .slice (some ⟨b1, o1, none⟩) n c] 25)) = w3 at *
        obtain ⟨d0, d1, d2⟩ := HPV.out q6 b1 o1 rfl
        have HCE := Lib.hid (compareEnds_any (ys.getD (k - 1) triZ).1 (ys.getD (k - 1) triZ).2.1 (ys.getD (k - 1) triZ).2.2 ta tb tc)
        have hcv := cmpEnds_bef (ys.getD (k - 1) triZ) (ta, tb, tc)
        have hcv2 : cmpEnds (ys.getD (k - 1) triZ) (ta, tb, tc) < 0 ↔ Bef (ys.getD (k - 1) triZ) (ta, tb, tc) := hcv
        change Hid (∀ w : World, Calls Tryd.prog 25 _ w fun e w' => e = .returned (.int .i64 (cmpEnds (ys.getD (k - 1) triZ) (ta, tb, tc))) ∧ Below w.heap.size w w') at HCE
        generalize cmpEnds (ys.getD (k - 1) triZ) (ta, tb, tc) = cv at *
        have t7 : decide (0 ≤ cv) = false := by have := hcv2.2 q7; simp; omega
        clear hcv hcv2 q7
        generalize (ys.getD (k - 1) triZ).1 = pa at *
        generalize (ys.getD (k - 1) triZ).2.1 = pb at *
        generalize (ys.getD (k - 1) triZ).2.2 = pc at *
        clear HPV
        generalize hj : k - 1 = j at *
        have hwj : IntKind.i64.wrap ((k : Int) - 1) = (j : Int) := by rw [IntWalk.i64_in _ (by omega)]; omega
        have hjn : (j : Int) < (n : Int) := by omega
        replace hj := Lib.hid hj
        have hx3 : w.heap.size < w3.heap.size := by omega
        have he3 : wr.heap.size < w3.heap.size := by omega
        have g0 := fun p => GrownW.cell (B := w3.heap.size) (box_cell X3.out 1 (.slice (some ⟨b1, o1, none⟩) n c) rfl) hx3 p
        have g1 := fun p => GrownW.cell (B := w3.heap.size) (box_cell E3.out 0 (.int .i64 ta) rfl) he3 p
        have g2 := fun p => GrownW.cell (B := w3.heap.size) (box_cell E3.out 1 (.int .i64 tb) rfl) he3 p
        have g3 := fun p => GrownW.cell (B := w3.heap.size) (box_cell E3.out 2 (.int .i64 tc) rfl) he3 p
        have g4 := fun p => GrownW.cell (B := w3.heap.size) ((HBW.out.cell (p := ⟨b1, o1 + j * 3, none⟩) hb1).trans d0) hb3 p
        have g5 := fun p => GrownW.cell (B := w3.heap.size) ((HBW.out.cell (p := ⟨b1, o1 + j * 3 + 1, none⟩) hb1).trans d1) hb3 p
        have g6 := fun p => GrownW.cell (B := w3.heap.size) ((HBW.out.cell (p := ⟨b1, o1 + j * 3 + 2, none⟩) hb1).trans d2) hb3 p
        clear d0 d1 d2 c0 c1 c2 k0 k1
        refine wp_region_grown w3.heap.size (by kernel_rfl) (by kernel_rfl) ?_
        repeat (go_big_quiet_step ((go_at_call 25; exact GrownW.call (Nat.le_refl _) (HCE.out _))))
        refine wpQuiet_done ?_
        intro w9 hb9
        replace X3 := Lib.hid (box_keep X3.out hb9); replace HB3 := Lib.hid (HB3.out.tr hb9)
        clear hb9 g0 g1 g2 g3 g4 g5 g6 t6 t7 hwj HCE E3 HBW hb3 X
        go_wp2_with fail
        go_roundw
        case rel => exact ⟨k + 1, by omega, by go_num, HB3, X3, Lib.hid fun i hi => by rcases Nat.lt_succ_iff_lt_or_eq.1 hi with h | rfl; exact HE.out i h; exact hne⟩
        case measure => simp [intOf]; omega
    · obtain rfl : k = n := by omega
      have hbo := HYES.out fun j hj => HE.out j (by omega)
      subst hbo
      go_wp2_with fail
      go_ret
      exact ⟨rfl, HB.out⟩
theorem l1In_is (n lo hi : Int) (w : World) (b : Bool) (hb : decide (lo ≤ n ∧ n ≤ hi) = b) : Calls Tryd.prog 17 #[.int .i64 n, .int .i64 lo, .int .i64 hi] w fun e w' => e = .returned (.bool b) ∧ w = w' := by
  rw [← hb]; exact l1In_any n lo hi w
theorem before_any (a0 a1 a2 b0 b1 b2 : Int) (w : World) :
    Calls Tryd.prog 19 #[.agg #[.int .i64 a0, .int .i64 a1, .int .i64 a2], .agg #[.int .i64 b0, .int .i64 b1, .int .i64 b2]] w fun e w' =>
      e = .returned (.bool (decide (Bef (a0, a1, a2) (b0, b1, b2)))) ∧ Below w.heap.size w w' := by
  by_cases h1 : a0 < b0
  · rw [decide_eq_true (show Bef (a0, a1, a2) (b0, b1, b2) from .inl h1)]
    have t1 : decide (a0 < b0) = true := by simp; omega
    go_enter Tryd.func19, Tryd.ntmps19
    go_wp2_with fail
    go_ret
    exact ⟨rfl, by go_grown⟩
  have t1 : decide (a0 < b0) = false := by simp; omega
  by_cases h2 : a0 = b0
  · have t2 : (a0 == b0) = true := by simp; exact h2
    by_cases h3 : a1 < b1
    · rw [decide_eq_true (show Bef (a0, a1, a2) (b0, b1, b2) from .inr ⟨h2, h3⟩)]
      have t3 : decide (a1 < b1) = true := by simp; omega
      clear h2
      go_enter Tryd.func19, Tryd.ntmps19
      go_wp2_with fail
      go_ret
      exact ⟨rfl, by go_grown⟩
    · rw [decide_eq_false (show ¬ Bef (a0, a1, a2) (b0, b1, b2) from by unfold Bef; simp only; omega)]
      have t3 : decide (a1 < b1) = false := by simp; omega
      clear h2
      go_enter Tryd.func19, Tryd.ntmps19
      go_wp2_with fail
      go_ret
      exact ⟨rfl, by go_grown⟩
  · have t2 : (a0 == b0) = false := by simp; exact h2
    rw [decide_eq_false (show ¬ Bef (a0, a1, a2) (b0, b1, b2) from by unfold Bef; simp only; omega)]
    clear h2
    go_enter Tryd.func19, Tryd.ntmps19
    go_wp2_with fail
    go_ret
    exact ⟨rfl, by go_grown⟩
theorem before_is (a0 a1 a2 b0 b1 b2 : Int) (w : World) (b : Bool) (hb : decide (Bef (a0, a1, a2) (b0, b1, b2)) = b) :
    Calls Tryd.prog 19 #[.agg #[.int .i64 a0, .int .i64 a1, .int .i64 a2], .agg #[.int .i64 b0, .int .i64 b1, .int .i64 b2]] w fun e w' => e = .returned (.bool b) ∧ Below w.heap.size w w' := by
  rw [← hb]; exact before_any a0 a1 a2 b0 b1 b2 w

set_option maxRecDepth 100000 in
set_option maxHeartbeats 4000000 in
theorem specGraphValid_any (w : World) (va : Value) (g : GraphD) (h : RdGraph w va g) :
    Calls Tryd.prog 8 #[va] w fun e w' => e = .returned (.bool (graphOk g)) ∧ Below w.heap.size w w' := by
  obtain ⟨a, c, rfl, hr, hc, hmx⟩ := h.form
  clear h
  obtain ⟨m, ys⟩ := g
  simp only at hr hc ⊢
  have HR : Hid (Rd w 3 (.slice a ys.length c) ys.length (tris ys)) := Lib.hid hr
  clear hr
  obtain ⟨m1, hm1⟩ : ∃ m1, IntKind.i64.wrap (m - 1) = m1 := ⟨_, rfl⟩
  have hgood : (0 ≤ m ∧ m ≤ 16) → m1 = m - 1 := fun h => by rw [← hm1, IntWalk.i64_in _ (by omega)]
  have HNO : Hid (∀ k, k < ys.length → ¬ EdgeAt m1 ys k → graphOk (m, ys) = false) := Lib.hid fun k hk h => by
    by_cases hm : 0 ≤ m ∧ m ≤ 16
    · rw [hgood hm] at h; exact graphOk_edge (g := (m, ys)) hk h
    · exact graphOk_many hm
  have HYES : Hid ((∀ k, k < ys.length → EdgeAt m1 ys k) → graphOk (m, ys) = (decide (0 ≤ m ∧ m ≤ 16) && decide (ys.length ≤ 40))) := Lib.hid fun h => by
    by_cases hm : 0 ≤ m ∧ m ≤ 16
    · by_cases hl : ys.length ≤ 40
      · rw [decide_eq_true hm, decide_eq_true hl]
        exact decide_eq_true ⟨hm, hl, by rw [hgood hm] at h; exact h⟩
      · rw [graphOk_len (by simp; omega)]; simp [hl]
    · rw [graphOk_many hm]; simp [hm]
  generalize graphOk (m, ys) = bo at *
  generalize hn : ys.length = n at *
  have HN := Lib.hid hn; clear hn
  have HB : Hid (Below w.heap.size w (w.alloc (.cells #[.int .i64 m, .slice a n c] 25))) := Lib.hid ((Below.refl _ _).alloc (Nat.le_refl _) _)
  have X := Lib.hid (heap_alloc_new w (.cells #[.int .i64 m, .slice a n c] 25))
  clear hgood
  go_enter Tryd.func8, Tryd.ntmps8
  go_wp2_with fail
  generalize (w.alloc (.cells #[.int .i64 m, .slice a n c] 25)) = w0 at *
  go_loopw [3] (fun i wr => ∃ k : Nat, k ≤ n ∧ i = .int .i64 k ∧ Hid (Below w.heap.size w wr) ∧ Hid (wr.heap[w.heap.size]? = some (.cells #[.int .i64 m, .slice a n c] 25 (0, 0))) ∧ Hid (∀ j, j < k → EdgeAt m1 ys j)) (fun i _ => n - (intOf i).toNat)
  case atStart => exact ⟨0, Nat.zero_le _, rfl, HB, X, Lib.hid fun j hj => by omega⟩
  case round =>
    clear HB X
    obtain ⟨k, hk, rfl, HB, X, HE⟩ := hrel
    have hxlt := box_lt X.out
    by_cases hlt : k < n
    · obtain ⟨b1, o1, rfl, hb1, c0, c1, c2⟩ := (HR.out.keep HB.out).tri hlt
      have HPV : Hid (0 < k → ∀ b2 o2, (some (⟨b1, o1, none⟩ : Addr)) = some ⟨b2, o2, none⟩ → wr.cell? ⟨b2, o2 + (k - 1) * 3, none⟩ = some (.int .i64 (ys.getD (k - 1) triZ).1) ∧ wr.cell? ⟨b2, o2 + (k - 1) * 3 + 1, none⟩ = some (.int .i64 (ys.getD (k - 1) triZ).2.1) ∧ wr.cell? ⟨b2, o2 + (k - 1) * 3 + 2, none⟩ = some (.int .i64 (ys.getD (k - 1) triZ).2.2)) := Lib.hid fun hk0 b2 o2 e => by
        obtain ⟨b3, o3, e3, _, d0, d1, d2⟩ := (HR.out.keep HB.out).tri (k := k - 1) (by omega)
        rw [e] at e3
        simp only [Option.some.injEq, Addr.mk.injEq, and_true] at e3
        obtain ⟨rfl, rfl⟩ := e3
        exact ⟨d0, d1, d2⟩
      have HEC := Lib.hid (edge_cases (m1 := m1) (ys := ys) (k := k) (ys.getD k triZ).1 (ys.getD k triZ).2.1 (ys.getD k triZ).2.2 _ rfl rfl)
      have HNK := Lib.hid (HNO.out k (by omega))
      generalize (ys.getD k triZ).1 = ta at *
      generalize (ys.getD k triZ).2.1 = tb at *
      generalize (ys.getD k triZ).2.2 = tc at *
      have k0 := box_cell X.out 0 _ rfl; have k1 := box_cell X.out 1 _ rfl
      have HB3 := Lib.hid (HB.out.tr (show Below wr.heap.size wr (wr.alloc (.cells #[.int .i64 ta, .int .i64 tb, .int .i64 tc] 34)) by go_grown))
      have X3 := Lib.hid (box_alloc X.out (.cells #[.int .i64 ta, .int .i64 tb, .int .i64 tc] 34))
      have E3 := Lib.hid (heap_alloc_new wr (.cells #[.int .i64 ta, .int .i64 tb, .int .i64 tc] 34))
      have hs3 : (wr.alloc (.cells #[.int .i64 ta, .int .i64 tb, .int .i64 tc] 34)).heap.size = wr.heap.size + 1 := by simp
      have hb3 : b1 < (wr.alloc (.cells #[.int .i64 ta, .int .i64 tb, .int .i64 tc] 34)).heap.size := by omega
      have HBW := Lib.hid (show Below wr.heap.size wr (wr.alloc (.cells #[.int .i64 ta, .int .i64 tb, .int .i64 tc] 34)) by go_grown)
      go_wp2_with fail
      generalize (wr.alloc (.cells #[.int .i64 ta, .int .i64 tb, .int .i64 tc] 34)) = w3 at *
      have hx3 : w.heap.size < w3.heap.size := by omega
      have he3 : wr.heap.size < w3.heap.size := by omega
      have gm := fun p => GrownW.cell (B := w3.heap.size) (box_cell X3.out 0 (.int .i64 m) rfl) hx3 p
      have g0 := fun p => GrownW.cell (B := w3.heap.size) (box_cell X3.out 1 (.slice (some ⟨b1, o1, none⟩) n c) rfl) hx3 p
      have g1 := fun p => GrownW.cell (B := w3.heap.size) (box_cell E3.out 0 (.int .i64 ta) rfl) he3 p
      have g2 := fun p => GrownW.cell (B := w3.heap.size) (box_cell E3.out 1 (.int .i64 tb) rfl) he3 p
      have g3 := fun p => GrownW.cell (B := w3.heap.size) (box_cell E3.out 2 (.int .i64 tc) rfl) he3 p
      clear c0 c1 c2 k0 k1 X E3
      rcases HEC.out with ⟨hne, q1⟩ | ⟨hne, q1, q2⟩ | ⟨hne, q1, q2, q3⟩ | ⟨hne, q1, q2, q3, q4⟩ | ⟨hne, q1, q2, q3, q4, q5⟩ | ⟨hne, q1, q2, q3, q4, q5, q6, q7⟩ | ⟨hne, q1, q2, q3, q4, q5, q6⟩ | ⟨hne, q1, q2, q3, q4, q5, q6, q7⟩
      · have E1 := Lib.hid (show decide (0 ≤ ta ∧ ta ≤ m1) = false by simp; omega)
        have hbo := HNK.out hne; subst hbo
        clear q1 HEC HPV
        refine wp_region_grown w3.heap.size (by kernel_rfl) (by kernel_rfl) ?_
        repeat (go_big_quiet_step (first
          | (go_at_call 17; first | with_reducible exact GrownW.call_same (l1In_is _ _ _ _ _ E1.out) | with_reducible exact GrownW.call_same (l1In_is _ _ _ _ _ E2.out) | with_reducible exact GrownW.call_same (l1In_is _ _ _ _ _ E4.out))
          | (go_at_call 19; exact GrownW.call (Nat.le_refl _) (HCE.out _))))
        refine wpQuiet_done ?_
        intro w9 hb9
        replace X3 := Lib.hid (box_keep X3.out hb9); replace HB3 := Lib.hid (HB3.out.tr hb9)
        clear hb9
        go_wp2_with fail
        go_ret
        exact ⟨rfl, HB3.out⟩
      · have E1 := Lib.hid (show decide (0 ≤ ta ∧ ta ≤ m1) = true by simp; omega)
        have E2 := Lib.hid (show decide (0 ≤ tb ∧ tb ≤ m1) = false by simp; omega)
        have hbo := HNK.out hne; subst hbo
        clear q1 q2 HEC HPV
        refine wp_region_grown w3.heap.size (by kernel_rfl) (by kernel_rfl) ?_
        repeat (go_big_quiet_step (first
          | (go_at_call 17; first | with_reducible exact GrownW.call_same (l1In_is _ _ _ _ _ E1.out) | with_reducible exact GrownW.call_same (l1In_is _ _ _ _ _ E2.out) | with_reducible exact GrownW.call_same (l1In_is _ _ _ _ _ E4.out))
          | (go_at_call 19; exact GrownW.call (Nat.le_refl _) (HCE.out _))))
        refine wpQuiet_done ?_
        intro w9 hb9
        replace X3 := Lib.hid (box_keep X3.out hb9); replace HB3 := Lib.hid (HB3.out.tr hb9)
        clear hb9
        go_wp2_with fail
        go_ret
        exact ⟨rfl, HB3.out⟩
      · have E1 := Lib.hid (show decide (0 ≤ ta ∧ ta ≤ m1) = true by simp; omega)
        have E2 := Lib.hid (show decide (0 ≤ tb ∧ tb ≤ m1) = true by simp; omega)
        have e3 : (ta == tb) = true := by simp; exact q3
        have hbo := HNK.out hne; subst hbo
        clear q1 q2 q3 HEC HPV
        refine wp_region_grown w3.heap.size (by kernel_rfl) (by kernel_rfl) ?_
        repeat (go_big_quiet_step (first
          | (go_at_call 17; first | with_reducible exact GrownW.call_same (l1In_is _ _ _ _ _ E1.out) | with_reducible exact GrownW.call_same (l1In_is _ _ _ _ _ E2.out) | with_reducible exact GrownW.call_same (l1In_is _ _ _ _ _ E4.out))
          | (go_at_call 19; exact GrownW.call (Nat.le_refl _) (HCE.out _))))
        refine wpQuiet_done ?_
        intro w9 hb9
        replace X3 := Lib.hid (box_keep X3.out hb9); replace HB3 := Lib.hid (HB3.out.tr hb9)
        clear hb9
        go_wp2_with fail
        go_ret
        exact ⟨rfl, HB3.out⟩
      · have E1 := Lib.hid (show decide (0 ≤ ta ∧ ta ≤ m1) = true by simp; omega)
        have E2 := Lib.hid (show decide (0 ≤ tb ∧ tb ≤ m1) = true by simp; omega)
        have e3 : (ta == tb) = false := by simp; exact q3
        have E4 := Lib.hid (show decide (0 ≤ tc ∧ tc ≤ 20) = false by simp; omega)
        have hbo := HNK.out hne; subst hbo
        clear q1 q2 q3 q4 HEC HPV
        refine wp_region_grown w3.heap.size (by kernel_rfl) (by kernel_rfl) ?_
        repeat (go_big_quiet_step (first
          | (go_at_call 17; first | with_reducible exact GrownW.call_same (l1In_is _ _ _ _ _ E1.out) | with_reducible exact GrownW.call_same (l1In_is _ _ _ _ _ E2.out) | with_reducible exact GrownW.call_same (l1In_is _ _ _ _ _ E4.out))
          | (go_at_call 19; exact GrownW.call (Nat.le_refl _) (HCE.out _))))
        refine wpQuiet_done ?_
        intro w9 hb9
        replace X3 := Lib.hid (box_keep X3.out hb9); replace HB3 := Lib.hid (HB3.out.tr hb9)
        clear hb9
        go_wp2_with fail
        go_ret
        exact ⟨rfl, HB3.out⟩
      · have E1 := Lib.hid (show decide (0 ≤ ta ∧ ta ≤ m1) = true by simp; omega)
        have E2 := Lib.hid (show decide (0 ≤ tb ∧ tb ≤ m1) = true by simp; omega)
        have e3 : (ta == tb) = false := by simp; exact q3
        have E4 := Lib.hid (show decide (0 ≤ tc ∧ tc ≤ 20) = false by simp; omega)
        have hbo := HNK.out hne; subst hbo
        clear q1 q2 q3 q4 q5 HEC HPV
        refine wp_region_grown w3.heap.size (by kernel_rfl) (by kernel_rfl) ?_
        repeat (go_big_quiet_step (first
          | (go_at_call 17; first | with_reducible exact GrownW.call_same (l1In_is _ _ _ _ _ E1.out) | with_reducible exact GrownW.call_same (l1In_is _ _ _ _ _ E2.out) | with_reducible exact GrownW.call_same (l1In_is _ _ _ _ _ E4.out))
          | (go_at_call 19; exact GrownW.call (Nat.le_refl _) (HCE.out _))))
        refine wpQuiet_done ?_
        intro w9 hb9
        replace X3 := Lib.hid (box_keep X3.out hb9); replace HB3 := Lib.hid (HB3.out.tr hb9)
        clear hb9
        go_wp2_with fail
        go_ret
        exact ⟨rfl, HB3.out⟩
      · have E1 := Lib.hid (show decide (0 ≤ ta ∧ ta ≤ m1) = true by simp; omega)
        have E2 := Lib.hid (show decide (0 ≤ tb ∧ tb ≤ m1) = true by simp; omega)
        have e3 : (ta == tb) = false := by simp; exact q3
        have E4 := Lib.hid (show decide (0 ≤ tc ∧ tc ≤ 20) = true by simp; omega)
        clear q1 q2 q3 q4 q5 HEC
        obtain ⟨d0, d1, d2⟩ := HPV.out q6 b1 o1 rfl
        have HCE := Lib.hid fun w => before_is (ys.getD (k - 1) triZ).1 (ys.getD (k - 1) triZ).2.1 (ys.getD (k - 1) triZ).2.2 ta tb tc w false (by exact decide_eq_false q7)
        generalize (ys.getD (k - 1) triZ).1 = pa at *
        generalize (ys.getD (k - 1) triZ).2.1 = pb at *
        generalize (ys.getD (k - 1) triZ).2.2 = pc at *
        clear HPV q7
        have t6 : decide (0 < k) = true := by simp; omega
        generalize hj : k - 1 = j at *
        have hwj : IntKind.i64.wrap ((k : Int) - 1) = (j : Int) := by rw [IntWalk.i64_in _ (by omega)]; omega
        have hjn : (j : Int) < (n : Int) := by omega
        replace hj := Lib.hid hj
        have g4 := fun p => GrownW.cell (B := w3.heap.size) ((HBW.out.cell (p := ⟨b1, o1 + j * 3, none⟩) hb1).trans d0) hb3 p
        have g5 := fun p => GrownW.cell (B := w3.heap.size) ((HBW.out.cell (p := ⟨b1, o1 + j * 3 + 1, none⟩) hb1).trans d1) hb3 p
        have g6 := fun p => GrownW.cell (B := w3.heap.size) ((HBW.out.cell (p := ⟨b1, o1 + j * 3 + 2, none⟩) hb1).trans d2) hb3 p
        clear d0 d1 d2
        have hbo := HNK.out hne; subst hbo
        refine wp_region_grown w3.heap.size (by kernel_rfl) (by kernel_rfl) ?_
        repeat (go_big_quiet_step (first
          | (go_at_call 17; first | with_reducible exact GrownW.call_same (l1In_is _ _ _ _ _ E1.out) | with_reducible exact GrownW.call_same (l1In_is _ _ _ _ _ E2.out) | with_reducible exact GrownW.call_same (l1In_is _ _ _ _ _ E4.out))
          | (go_at_call 19; exact GrownW.call (Nat.le_refl _) (HCE.out _))))
        refine wpQuiet_done ?_
        intro w9 hb9
        replace X3 := Lib.hid (box_keep X3.out hb9); replace HB3 := Lib.hid (HB3.out.tr hb9)
        clear hb9
        go_wp2_with fail
        go_ret
        exact ⟨rfl, HB3.out⟩
      · have E1 := Lib.hid (show decide (0 ≤ ta ∧ ta ≤ m1) = true by simp; omega)
        have E2 := Lib.hid (show decide (0 ≤ tb ∧ tb ≤ m1) = true by simp; omega)
        have e3 : (ta == tb) = false := by simp; exact q3
        have E4 := Lib.hid (show decide (0 ≤ tc ∧ tc ≤ 20) = true by simp; omega)
        have t6 : decide (0 < k) = false := by simp; omega
        clear q1 q2 q3 q4 q5 q6 HEC HPV
        refine wp_region_grown w3.heap.size (by kernel_rfl) (by kernel_rfl) ?_
        repeat (go_big_quiet_step (first
          | (go_at_call 17; first | with_reducible exact GrownW.call_same (l1In_is _ _ _ _ _ E1.out) | with_reducible exact GrownW.call_same (l1In_is _ _ _ _ _ E2.out) | with_reducible exact GrownW.call_same (l1In_is _ _ _ _ _ E4.out))
          | (go_at_call 19; exact GrownW.call (Nat.le_refl _) (HCE.out _))))
        refine wpQuiet_done ?_
        intro w9 hb9
        replace X3 := Lib.hid (box_keep X3.out hb9); replace HB3 := Lib.hid (HB3.out.tr hb9)
        clear hb9
        go_wp2_with fail
        go_roundw
        case rel => exact ⟨k + 1, by omega, by go_num, HB3, X3, Lib.hid fun i hi => by rcases Nat.lt_succ_iff_lt_or_eq.1 hi with h | rfl; exact HE.out i h; exact hne⟩
        case measure => simp [intOf]; omega
      · have E1 := Lib.hid (show decide (0 ≤ ta ∧ ta ≤ m1) = true by simp; omega)
        have E2 := Lib.hid (show decide (0 ≤ tb ∧ tb ≤ m1) = true by simp; omega)
        have e3 : (ta == tb) = false := by simp; exact q3
        have E4 := Lib.hid (show decide (0 ≤ tc ∧ tc ≤ 20) = true by simp; omega)
        clear q1 q2 q3 q4 q5 HEC
        obtain ⟨d0, d1, d2⟩ := HPV.out q6 b1 o1 rfl
        have HCE := Lib.hid fun w => before_is (ys.getD (k - 1) triZ).1 (ys.getD (k - 1) triZ).2.1 (ys.getD (k - 1) triZ).2.2 ta tb tc w true (by exact decide_eq_true q7)
        generalize (ys.getD (k - 1) triZ).1 = pa at *
        generalize (ys.getD (k - 1) triZ).2.1 = pb at *
        generalize (ys.getD (k - 1) triZ).2.2 = pc at *
        clear HPV q7
        have t6 : decide (0 < k) = true := by simp; omega
        generalize hj : k - 1 = j at *
        have hwj : IntKind.i64.wrap ((k : Int) - 1) = (j : Int) := by rw [IntWalk.i64_in _ (by omega)]; omega
        have hjn : (j : Int) < (n : Int) := by omega
        replace hj := Lib.hid hj
        have g4 := fun p => GrownW.cell (B := w3.heap.size) ((HBW.out.cell (p := ⟨b1, o1 + j * 3, none⟩) hb1).trans d0) hb3 p
        have g5 := fun p => GrownW.cell (B := w3.heap.size) ((HBW.out.cell (p := ⟨b1, o1 + j * 3 + 1, none⟩) hb1).trans d1) hb3 p
        have g6 := fun p => GrownW.cell (B := w3.heap.size) ((HBW.out.cell (p := ⟨b1, o1 + j * 3 + 2, none⟩) hb1).trans d2) hb3 p
        clear d0 d1 d2
        refine wp_region_grown w3.heap.size (by kernel_rfl) (by kernel_rfl) ?_
        repeat (go_big_quiet_step (first
          | (go_at_call 17; first | with_reducible exact GrownW.call_same (l1In_is _ _ _ _ _ E1.out) | with_reducible exact GrownW.call_same (l1In_is _ _ _ _ _ E2.out) | with_reducible exact GrownW.call_same (l1In_is _ _ _ _ _ E4.out))
          | (go_at_call 19; exact GrownW.call (Nat.le_refl _) (HCE.out _))))
        refine wpQuiet_done ?_
        intro w9 hb9
        replace X3 := Lib.hid (box_keep X3.out hb9); replace HB3 := Lib.hid (HB3.out.tr hb9)
        clear hb9
        go_wp2_with fail
        go_roundw
        case rel => exact ⟨k + 1, by omega, by go_num, HB3, X3, Lib.hid fun i hi => by rcases Nat.lt_succ_iff_lt_or_eq.1 hi with h | rfl; exact HE.out i h; exact hne⟩
        case measure => simp [intOf]; omega
    · obtain rfl : k = n := by omega
      have hbo := HYES.out fun j hj => HE.out j (by omega)
      have k0 := box_cell X.out 0 _ rfl; have k1 := box_cell X.out 1 _ rfl
      by_cases h1 : 0 ≤ m ∧ m ≤ 16
      · have E1 := Lib.hid (decide_eq_true h1)
        by_cases h2 : k ≤ 40
        · have t2 : decide ((k : Int) ≤ 40) = true := by simp; omega
          replace hbo : bo = true := by rw [hbo, E1.out, decide_eq_true h2]; rfl
          subst hbo
          clear h1
          go_wp2_with (go_at_call 17; refine (l1In_is _ _ _ _ _ E1.out).mono ?_; rintro e w9 ⟨rfl, rfl⟩)
          go_ret
          exact ⟨rfl, HB.out⟩
        · have t2 : decide ((k : Int) ≤ 40) = false := by simp; omega
          replace hbo : bo = false := by rw [hbo, E1.out, decide_eq_false h2]; rfl
          subst hbo
          clear h1
          go_wp2_with (go_at_call 17; refine (l1In_is _ _ _ _ _ E1.out).mono ?_; rintro e w9 ⟨rfl, rfl⟩)
          go_ret
          exact ⟨rfl, HB.out⟩
      · have E1 := Lib.hid (decide_eq_false h1)
        replace hbo : bo = false := by rw [hbo, E1.out]; rfl
        subst hbo
        clear h1
        go_wp2_with (go_at_call 17; refine (l1In_is _ _ _ _ _ E1.out).mono ?_; rintro e w9 ⟨rfl, rfl⟩)
        go_ret
        exact ⟨rfl, HB.out⟩
end Go.Proofs.YtgdggkhdollieaaDoor
