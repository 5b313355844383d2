/-
  How messages are compared: the program's function and the reference's.
-/
import Derived.Test.YtgdggkhdollieaaGraphV
import Derived.Test.YtgdggkhdollieaaSortP
import Derived.Test.YtgdggkhdollieaaRel
import Derived.Sort.Grow
import Derived.Deep.Draws
namespace Go.Proofs.Ytgdggkhdollieaa
open Go.RowKit
set_option linter.unusedVariables false

/-- A world that has come of another one by new blocks and draws alone. -/
def Gr (w w' : World) : Prop := ∃ q os, w' = Go.Sort.grow (w.drewN q) os
theorem Gr.refl (w : World) : Gr w w := ⟨0, #[], by rw [World.drewN_zero, Go.Sort.grow_empty]⟩
theorem Gr.trans {a b c : World} (h : Gr a b) (k : Gr b c) : Gr a c := by
  obtain ⟨q, os, rfl⟩ := h
  obtain ⟨q', os', rfl⟩ := k
  refine ⟨q + q', os ++ os', ?_⟩
  simp [Go.Sort.grow, World.drewN, Array.append_assoc, Nat.add_assoc]
theorem Gr.drew {a b : World} (h : Gr a b) : Gr a b.drew := h.trans ⟨1, #[], by rw [Go.Sort.grow_empty]; rfl⟩
theorem Gr.alloc {a b : World} (h : Gr a b) (o : Obj) : Gr a (b.alloc o) := h.trans ⟨0, #[o], by rw [World.drewN_zero, ← World.alloc_eq]; unfold Go.Sort.grow; rw [Array.push_eq_append]⟩
theorem Gr.below {a b : World} (h : Gr a b) : Below a.heap.size a b := by
  obtain ⟨q, os, rfl⟩ := h
  exact ⟨rfl, rfl, rfl, by simp [Go.Sort.grow, World.drewN], fun k hk => by simp [Go.Sort.grow, World.drewN, Array.getElem?_append_left hk]⟩

def cmpMsg (a b : Tri) : Int := if cmpI a.1 b.1 = 0 then (if cmpI a.2.1 b.2.1 = 0 then cmpI a.2.2 b.2.2 else cmpI a.2.1 b.2.1) else cmpI a.1 b.1
theorem cmpMsg_neg (a b : Tri) : cmpMsg a b < 0 ↔ ¬ TLe b a := by
  unfold cmpMsg cmpI TLe
  obtain ⟨a0, a1, a2⟩ := a; obtain ⟨b0, b1, b2⟩ := b
  simp only
  repeat' split
  all_goals omega
def tBefore (a b : Tri) : Bool := !decide (TLe b a)
theorem tBefore_iff (a b : Tri) : tBefore a b = true ↔ ¬ TLe b a := by simp [tBefore]

set_option maxRecDepth 100000 in
set_option maxHeartbeats 2000000 in
/-- The first of three numbers that is not 0. -/
theorem or3_any (p q r : Int) (w : World) (b c : Nat) (h0 : w.cell? ⟨b, 0, none⟩ = some (.int .i64 p)) (h1 : w.cell? ⟨b, 1, none⟩ = some (.int .i64 q)) (h2 : w.cell? ⟨b, 2, none⟩ = some (.int .i64 r)) (hc : 3 ≤ c) :
    Calls Try.prog 111 #[.slice (some ⟨b, 0, none⟩) 3 c] w fun e w' => e = .returned (.int .i64 (if p = 0 then (if q = 0 then r else q) else p)) ∧ w = w' := by
  by_cases hp : p = 0
  · rw [if_pos hp]
    have tp : (p == 0) = true := by simp [hp]
    rw [hp] at h0
    by_cases hq : q = 0
    · have tq : (q == 0) = true := by simp [hq]
      rw [if_pos hq]
      rw [hq] at h1
      by_cases hr : r = 0
      · have tr : (r == 0) = true := by simp [hr]
        rw [hr] at h2 ⊢
        go_enter Try.func111, Try.ntmps111
        go_wp2_with fail
        refine wp_loop_rounds 4 ?_
        rw [rounds_succ]
        go_wp2_with fail
        rw [rounds_succ]
        go_wp2_with fail
        rw [rounds_succ]
        go_wp2_with fail
        rw [rounds_succ]
        go_wp2_with fail
        go_ret
        exact ⟨rfl, rfl⟩
      · have tr : (r == 0) = false := by simp [hr]
        go_enter Try.func111, Try.ntmps111
        go_wp2_with fail
        refine wp_loop_rounds 3 ?_
        rw [rounds_succ]
        go_wp2_with fail
        rw [rounds_succ]
        go_wp2_with fail
        rw [rounds_succ]
        go_wp2_with fail
        go_ret
        exact ⟨rfl, rfl⟩
    · have tq : (q == 0) = false := by simp [hq]
      rw [if_neg hq]
      go_enter Try.func111, Try.ntmps111
      go_wp2_with fail
      refine wp_loop_rounds 2 ?_
      rw [rounds_succ]
      go_wp2_with fail
      rw [rounds_succ]
      go_wp2_with fail
      go_ret
      exact ⟨rfl, rfl⟩
  · rw [if_neg hp]
    have tp : (p == 0) = false := by simp [hp]
    go_enter Try.func111, Try.ntmps111
    go_wp2_with fail
    refine wp_loop_rounds 1 ?_
    rw [rounds_succ]
    go_wp2_with fail
    go_ret
    exact ⟨rfl, rfl⟩

/-- Three ints in a block of their own. -/
def threeI (p q r : Int) : Value → World → Prop := fun v w => ∃ b, v = .slice (some ⟨b, 0, none⟩) 3 3 ∧ w.heap[b]? = some (.cells #[.int .i64 p, .int .i64 q, .int .i64 r] 3 (0, 0))
theorem stab_threeI (p q r : Int) : Stab (fun w w' => Gr w w') (threeI p q r) := fun _ _ _ hr ⟨b, h1, h2⟩ => ⟨b, h1, box_keep h2 hr.below⟩
set_option maxRecDepth 100000 in
set_option maxHeartbeats 2000000 in
theorem compareMessages_any (a0 a1 a2 b0 b1 b2 : Int) (w : World) :
    Calls Try.prog 94 #[.agg #[.int .i64 a0, .int .i64 a1, .int .i64 a2], .agg #[.int .i64 b0, .int .i64 b1, .int .i64 b2]] w fun e w' =>
      e = .returned (.int .i64 (cmpMsg (a0, a1, a2) (b0, b1, b2))) ∧ Gr w w' := by
  have hv : cmpMsg (a0, a1, a2) (b0, b1, b2) = if cmpI a0 b0 = 0 then (if cmpI a1 b1 = 0 then cmpI a2 b2 else cmpI a1 b1) else cmpI a0 b0 := rfl
  rw [hv]
  have C0 := Lib.hid fun wx => compare_any a0 b0 wx
  have C1 := Lib.hid fun wx => compare_any a1 b1 wx
  have C2 := Lib.hid fun wx => compare_any a2 b2 wx
  generalize cmpI a0 b0 = p at *
  generalize cmpI a1 b1 = q at *
  generalize cmpI a2 b2 = r at *
  clear hv
  obtain ⟨u, hu⟩ : ∃ u, u = if p = 0 then (if q = 0 then r else q) else p := ⟨_, rfl⟩
  rw [← hu]
  have HU := Lib.hid hu; clear hu
  go_enter Try.func94, Try.ntmps94
  go_wp2_with fail
  have HB : Hid (Gr w ((w.alloc (.cells #[.int .i64 a0, .int .i64 a1, .int .i64 a2] 33)).alloc (.cells #[.int .i64 b0, .int .i64 b1, .int .i64 b2] 33))) := Lib.hid (((Gr.refl w).alloc _).alloc _)
  have X0 := box_alloc (heap_alloc_new w (.cells #[.int .i64 a0, .int .i64 a1, .int .i64 a2] 33)) (.cells #[.int .i64 b0, .int .i64 b1, .int .i64 b2] 33)
  have X1 := heap_alloc_new (w.alloc (.cells #[.int .i64 a0, .int .i64 a1, .int .i64 a2] 33)) (.cells #[.int .i64 b0, .int .i64 b1, .int .i64 b2] 33)
  simp only [World.size_alloc] at X1
  generalize ((w.alloc (.cells #[.int .i64 a0, .int .i64 a1, .int .i64 a2] 33)).alloc (.cells #[.int .i64 b0, .int .i64 b1, .int .i64 b2] 33)) = w1 at *
  have k0 := box_cell X0 0 _ rfl; have k1 := box_cell X0 1 _ rfl; have k2 := box_cell X0 2 _ rfl
  have l0 := box_cell X1 0 _ rfl; have l1 := box_cell X1 1 _ rfl; have l2 := box_cell X1 2 _ rfl
  clear X0 X1
  have hB : w.heap.size + 1 < w1.heap.size := World.block_lt_of_cell? w1 _ l0
  refine wp_region_rel (fun x => { tmps := #[.agg #[.int .i64 a0, .int .i64 a1, .int .i64 a2], .agg #[.int .i64 b0, .int .i64 b1, .int .i64 b2], .pointer (some ⟨w.heap.size, 0, none⟩), .pointer (some ⟨w.heap.size + 1, 0, none⟩), x 4, x 5, x 6, x 7, x 8, x 9, x 10, x 11, x 12, x 13, x 14, x 15, x 16, x 17, x 18, x 19, x 20, x 21], defers := [] })
    (fun k => if k = 4 then .int .i64 0 else undef) (fun _ _ wx => Gr w1 wx) (fun _ wx wy => Gr wx wy)
    (Tl [cst (.pointer (some ⟨w.heap.size, 0, none⟩)), cst (.int .i64 a0), cst (.pointer (some ⟨w.heap.size + 1, 0, none⟩)), cst (.int .i64 b0), cst (.int .i64 p), cst (.pointer (some ⟨w.heap.size, 1, none⟩)), cst (.int .i64 a1), cst (.pointer (some ⟨w.heap.size + 1, 1, none⟩)), cst (.int .i64 b1), cst (.int .i64 q), cst (.pointer (some ⟨w.heap.size, 2, none⟩)), cst (.int .i64 a2), cst (.pointer (some ⟨w.heap.size + 1, 2, none⟩)), cst (.int .i64 b2), cst (.int .i64 r), threeI p q r, cst (.int .i64 u), cst (.int .i64 u)])
    (by kernel_rfl) (by kernel_rfl) (by kernel_rfl) (stab_Tl ?hst) (fun _ wx => Gr.refl wx) (Gr.refl _).drew ?hput ?hop ?hend
  case hst =>
    simp only [List.mem_cons, List.not_mem_nil, or_false, forall_eq_or_imp, forall_eq]
    refine ⟨?_, ?_, ?_, ?_, ?_, ?_, ?_, ?_, ?_, ?_, ?_, ?_, ?_, ?_, ?_, ?_, ?_, ?_⟩
    all_goals first | exact stab_cst _ _ | exact stab_threeI _ _ _
  case hput =>
    refine ⟨?_, ?_, ?_, ?_, ?_, ?_, ?_, ?_, ?_, ?_, ?_, ?_, ?_, ?_, ?_, ?_, ?_, ?_, trivial⟩
    all_goals first | exact fun x v => rfl | exact trivial
  case hop =>
    refine ⟨?_, ?_, ?_, ?_, ?_, ?_, ?_, ?_, ?_, ?_, ?_, ?_, ?_, ?_, ?_, ?_, ?_, ?_, trivial⟩
    · refine OpRel.plain rfl fun n L x wx K hn hL hG hdep hK => ?_
      clear hdep; go_simp
      exact hK _ _ hG (Gr.refl _) rfl
    · refine OpRel.plain rfl fun n L x wx K hn hL hG hdep hK => ?_
      have h5 : x 5 = _ := (hdep 0 rfl).2 _ rfl
      have z := (hG.below.cell (p := ⟨w.heap.size, 0, none⟩) (by simp; omega)).trans k0
      clear hdep; simp only [h5] at hK; go_simp
      exact hK _ _ hG (Gr.refl _) rfl
    · refine OpRel.plain rfl fun n L x wx K hn hL hG hdep hK => ?_
      clear hdep; go_simp
      exact hK _ _ hG (Gr.refl _) rfl
    · refine OpRel.plain rfl fun n L x wx K hn hL hG hdep hK => ?_
      have h7 : x 7 = _ := (hdep 2 rfl).2 _ rfl
      have z := (hG.below.cell (p := ⟨w.heap.size + 1, 0, none⟩) (by simp; omega)).trans l0
      clear hdep; simp only [h7] at hK; go_simp
      exact hK _ _ hG (Gr.refl _) rfl
    · refine OpRel.plain rfl fun n L x wx K hn hL hG hdep hK => ?_
      have h6 : x 6 = _ := (hdep 1 rfl).2 _ rfl
      have h8 : x 8 = _ := (hdep 3 rfl).2 _ rfl
      clear hdep; simp only [h6, h8] at hK; go_simp
      refine (C0.out _).mono ?_; rintro e w2 ⟨rfl, rfl⟩; exact hK _ _ hG (Gr.refl _) rfl
    · refine OpRel.plain rfl fun n L x wx K hn hL hG hdep hK => ?_
      clear hdep; go_simp
      exact hK _ _ hG (Gr.refl _) rfl
    · refine OpRel.plain rfl fun n L x wx K hn hL hG hdep hK => ?_
      have h10 : x 10 = _ := (hdep 5 rfl).2 _ rfl
      have z := (hG.below.cell (p := ⟨w.heap.size, 1, none⟩) (by simp; omega)).trans k1
      clear hdep; simp only [h10] at hK; go_simp
      exact hK _ _ hG (Gr.refl _) rfl
    · refine OpRel.plain rfl fun n L x wx K hn hL hG hdep hK => ?_
      clear hdep; go_simp
      exact hK _ _ hG (Gr.refl _) rfl
    · refine OpRel.plain rfl fun n L x wx K hn hL hG hdep hK => ?_
      have h12 : x 12 = _ := (hdep 7 rfl).2 _ rfl
      have z := (hG.below.cell (p := ⟨w.heap.size + 1, 1, none⟩) (by simp; omega)).trans l1
      clear hdep; simp only [h12] at hK; go_simp
      exact hK _ _ hG (Gr.refl _) rfl
    · refine OpRel.plain rfl fun n L x wx K hn hL hG hdep hK => ?_
      have h11 : x 11 = _ := (hdep 6 rfl).2 _ rfl
      have h13 : x 13 = _ := (hdep 8 rfl).2 _ rfl
      clear hdep; simp only [h11, h13] at hK; go_simp
      refine (C1.out _).mono ?_; rintro e w2 ⟨rfl, rfl⟩; exact hK _ _ hG (Gr.refl _) rfl
    · refine OpRel.plain rfl fun n L x wx K hn hL hG hdep hK => ?_
      clear hdep; go_simp
      exact hK _ _ hG (Gr.refl _) rfl
    · refine OpRel.plain rfl fun n L x wx K hn hL hG hdep hK => ?_
      have h15 : x 15 = _ := (hdep 10 rfl).2 _ rfl
      have z := (hG.below.cell (p := ⟨w.heap.size, 2, none⟩) (by simp; omega)).trans k2
      clear hdep; simp only [h15] at hK; go_simp
      exact hK _ _ hG (Gr.refl _) rfl
    · refine OpRel.plain rfl fun n L x wx K hn hL hG hdep hK => ?_
      clear hdep; go_simp
      exact hK _ _ hG (Gr.refl _) rfl
    · refine OpRel.plain rfl fun n L x wx K hn hL hG hdep hK => ?_
      have h17 : x 17 = _ := (hdep 12 rfl).2 _ rfl
      have z := (hG.below.cell (p := ⟨w.heap.size + 1, 2, none⟩) (by simp; omega)).trans l2
      clear hdep; simp only [h17] at hK; go_simp
      exact hK _ _ hG (Gr.refl _) rfl
    · refine OpRel.plain rfl fun n L x wx K hn hL hG hdep hK => ?_
      have h16 : x 16 = _ := (hdep 11 rfl).2 _ rfl
      have h18 : x 18 = _ := (hdep 13 rfl).2 _ rfl
      clear hdep; simp only [h16, h18] at hK; go_simp
      refine (C2.out _).mono ?_; rintro e w2 ⟨rfl, rfl⟩; exact hK _ _ hG (Gr.refl _) rfl
    · refine OpRel.plain rfl fun n L x wx K hn hL hG hdep hK => ?_
      have h9 : x 9 = _ := (hdep 4 rfl).2 _ rfl
      have h14 : x 14 = _ := (hdep 9 rfl).2 _ rfl
      have h19 : x 19 = _ := (hdep 14 rfl).2 _ rfl
      clear hdep; simp only [h9, h14, h19] at hK; go_simp
      exact hK _ _ (hG.alloc _) ((Gr.refl _).alloc _) ⟨_, rfl, heap_alloc_new _ _⟩
    · refine OpRel.plain rfl fun n L x wx K hn hL hG hdep hK => ?_
      obtain ⟨b, h20, hbx⟩ := (hdep 15 rfl).2 _ rfl
      have c0 := box_cell hbx 0 _ rfl; have c1 := box_cell hbx 1 _ rfl; have c2 := box_cell hbx 2 _ rfl
      clear hdep; simp only [h20] at hK; go_simp
      refine (or3_any p q r _ b 3 c0 c1 c2 (by omega)).mono ?_; rintro e w2 ⟨rfl, rfl⟩; rw [← HU.out]; exact hK _ _ hG (Gr.refl _) rfl
    · refine OpRel.plain rfl fun n L x wx K hn hL hG hdep hK => ?_
      have h21 : x 21 = _ := (hdep 16 rfl).2 _ rfl
      clear hdep; simp only [h21] at hK; go_simp
      exact hK _ _ hG (Gr.refl _) rfl
  case hend =>
    intro n L x wx hn hG hall
    have h4 : x 4 = .int .i64 u := (hall 17 (by decide)).2 _ rfl
    simp only [h4]
    go_wp2_with fail
    go_ret
    exact ⟨rfl, HB.out.trans hG⟩

set_option maxRecDepth 100000 in
set_option maxHeartbeats 2000000 in
theorem l9Before_any (a0 a1 a2 b0 b1 b2 : Int) (w : World) :
    Calls Try.prog 59 #[.agg #[.int .i64 a0, .int .i64 a1, .int .i64 a2], .agg #[.int .i64 b0, .int .i64 b1, .int .i64 b2]] w fun e w' =>
      e = .returned (.bool (tBefore (a0, a1, a2) (b0, b1, b2))) ∧ Below w.heap.size w w' := by
  have hv : tBefore (a0, a1, a2) (b0, b1, b2) = if a0 = b0 then (if a1 = b1 then decide (a2 < b2) else decide (a1 < b1)) else decide (a0 < b0) := by
    rw [Bool.eq_iff_iff, tBefore_iff]
    unfold TLe
    simp only
    repeat' split
    all_goals (simp only [decide_eq_true_eq]; omega)
  rw [hv]
  clear hv
  have HB : Hid (Below w.heap.size w ((w.alloc (.cells #[.int .i64 a0, .int .i64 a1, .int .i64 a2] 33)).alloc (.cells #[.int .i64 b0, .int .i64 b1, .int .i64 b2] 33))) := Lib.hid (by go_grown)
  have X0 := box_alloc (heap_alloc_new w (.cells #[.int .i64 a0, .int .i64 a1, .int .i64 a2] 33)) (.cells #[.int .i64 b0, .int .i64 b1, .int .i64 b2] 33)
  have X1 := heap_alloc_new (w.alloc (.cells #[.int .i64 a0, .int .i64 a1, .int .i64 a2] 33)) (.cells #[.int .i64 b0, .int .i64 b1, .int .i64 b2] 33)
  simp only [World.size_alloc] at X1
  have k0 := box_cell X0 0 _ rfl; have k1 := box_cell X0 1 _ rfl; have k2 := box_cell X0 2 _ rfl
  have l0 := box_cell X1 0 _ rfl; have l1 := box_cell X1 1 _ rfl; have l2 := box_cell X1 2 _ rfl
  clear X0 X1
  by_cases e0 : a0 = b0
  · have t0 : (a0 == b0) = true := by simp [e0]
    rw [if_pos e0]
    by_cases e1 : a1 = b1
    · have t1 : (a1 == b1) = true := by simp [e1]
      rw [if_pos e1]
      clear e0 e1
      go_enter Try.func59, Try.ntmps59
      go_wp2_with fail
      go_ret
      exact ⟨rfl, HB.out⟩
    · have t1 : (a1 == b1) = false := by simp [e1]
      rw [if_neg e1]
      clear e0 e1
      go_enter Try.func59, Try.ntmps59
      go_wp2_with fail
      go_ret
      exact ⟨rfl, HB.out⟩
  · have t0 : (a0 == b0) = false := by simp [e0]
    rw [if_neg e0]
    clear e0
    go_enter Try.func59, Try.ntmps59
    go_wp2_with fail
    go_ret
    exact ⟨rfl, HB.out⟩
end Go.Proofs.Ytgdggkhdollieaa
