/-
  The last round of a program with a graph: the program's function and the reference's.
-/
import Derived.Test.YtgdggkhdollieaaGraphV
import Derived.Test.YtgdggkhdollieaaProgV
import Derived.Test.YtgdggkhdollieaaTri
import Derived.Test.YtgdggkhdollieaaLib3
namespace Go.Proofs.Ytgdggkhdollieaa
open Go.RowKit
set_option linter.unusedVariables false

def lastRound (g : GraphD) (y : Tri) : Int := if graphOk g = true ∧ progOk y.1 y.2.1 y.2.2 = true then (if y.1 = 4 ∨ y.1 = 6 then y.2.2 + 1 else if y.1 = 5 then 3 else g.1 + 1) else -1
theorem progOk_kinds {k s r : Int} (h : progOk k s r = true) : (k = 1 ∨ k = 2 ∨ k = 3 ∨ k = 4 ∨ k = 5 ∨ k = 6) ∧ 0 ≤ r ∧ r ≤ 20 := by
  unfold progOk at h
  split at h
  · simp at h; omega
  · split at h
    · simp at h; omega
    · split at h
      · simp at h; omega
      · cases h
set_option maxRecDepth 100000 in
set_option maxHeartbeats 4000000 in
theorem implLastRound_any (w : World) (va : Value) (g : GraphD) (k s r : Int) (h : RdGraph w va g) : Calls Try.prog 34 #[va, .agg #[.int .i64 k, .int .i64 s, .int .i64 r]] w fun e w' => e = .returned (.int .i64 (lastRound g (k, s, r))) ∧ Below w.heap.size w w' := by
  have HRG := Lib.hid h
  obtain ⟨p, c, rfl, hr, hc, hmx⟩ := h.form
  clear h hr
  have hL : (lastRound g (k, s, r)) = if graphOk g = true ∧ progOk k s r = true then (if k = 4 ∨ k = 6 then r + 1 else if k = 5 then 3 else g.1 + 1) else -1 := rfl
  rw [hL]; clear hL
  have hgm := fun ho => (graphOk_yes (g := g) ho).1
  have HB : Hid (Below w.heap.size w ((w.alloc (.cells #[.int .i64 g.1, .slice p g.2.length c] 55)).alloc (.cells #[.int .i64 k, .int .i64 s, .int .i64 r] 57))) := Lib.hid (by go_grown)
  have X := Lib.hid (box_alloc (heap_alloc_new w (.cells #[.int .i64 g.1, .slice p g.2.length c] 55)) (.cells #[.int .i64 k, .int .i64 s, .int .i64 r] 57))
  have Y := Lib.hid (heap_alloc_new (w.alloc (.cells #[.int .i64 g.1, .slice p g.2.length c] 55)) (.cells #[.int .i64 k, .int .i64 s, .int .i64 r] 57))
  rw [World.size_alloc] at Y
  have HV := Lib.hid fun wx (hb : Below w.heap.size w wx) => implGraphValid_any wx _ g (HRG.out.keep hb)
  have HP := Lib.hid fun wx => implProgramValid_any k s r wx
  clear HRG
  obtain ⟨m, ys⟩ := g
  simp only at hgm HB X Y HV hc ⊢
  generalize hok : graphOk (m, ys) = ok at *
  generalize ys.length = l at *
  cases ok
  · rw [if_neg (by simp)]
    clear hgm HP
    go_enter Try.func34, Try.ntmps34
    go_wp2_with fail
    generalize ((w.alloc (.cells #[.int .i64 m, .slice p l c] 55)).alloc (.cells #[.int .i64 k, .int .i64 s, .int .i64 r] 57)) = w0 at *
    refine (HV.out _ HB.out).mono ?_
    rintro e w1 ⟨rfl, hb⟩
    replace HB := Lib.hid (HB.out.tr hb); clear hb
    go_wp2_with fail
    go_ret
    exact ⟨rfl, HB.out⟩
  · replace hgm := hgm rfl
    cases hpk : progOk k s r
    · rw [hpk] at HP
      rw [if_neg (by simp)]
      clear hpk
      go_enter Try.func34, Try.ntmps34
      go_wp2_with fail
      generalize ((w.alloc (.cells #[.int .i64 m, .slice p l c] 55)).alloc (.cells #[.int .i64 k, .int .i64 s, .int .i64 r] 57)) = w0 at *
      refine (HV.out _ HB.out).mono ?_
      rintro e w1 ⟨rfl, hb⟩
      replace HB := Lib.hid (HB.out.tr hb); replace Y := Lib.hid (box_keep Y.out hb); clear hb
      have y0 := box_cell Y.out 0 _ rfl; have y1 := box_cell Y.out 1 _ rfl; have y2 := box_cell Y.out 2 _ rfl
      go_wp2_with fail
      refine (HP.out _).mono ?_
      rintro e w2 ⟨rfl, hb⟩
      replace HB := Lib.hid (HB.out.tr hb); clear hb y0 y1 y2
      go_wp2_with fail
      go_ret
      exact ⟨rfl, HB.out⟩
    · rw [hpk] at HP
      rw [if_pos ⟨rfl, rfl⟩]
      obtain ⟨hk, hr0, hr1⟩ := progOk_kinds hpk
      clear hpk
      rcases hk with rfl | rfl | rfl | rfl | rfl | rfl
      all_goals
        go_enter Try.func34, Try.ntmps34
        go_wp2_with fail
        generalize ((w.alloc (.cells #[.int .i64 m, .slice p l c] 55)).alloc _) = w0 at *
        refine (HV.out _ HB.out).mono ?_
        rintro e w1 ⟨rfl, hb⟩
        replace HB := Lib.hid (HB.out.tr hb); replace Y := Lib.hid (box_keep Y.out hb); replace X := Lib.hid (box_keep X.out hb); clear hb
        have y0 := box_cell Y.out 0 _ rfl; have y1 := box_cell Y.out 1 _ rfl; have y2 := box_cell Y.out 2 _ rfl
        go_wp2_with fail
        refine (HP.out _).mono ?_
        rintro e w2 ⟨rfl, hb⟩
        replace HB := Lib.hid (HB.out.tr hb); replace Y := Lib.hid (box_keep Y.out hb); replace X := Lib.hid (box_keep X.out hb); clear hb y0 y1 y2
        have y0 := box_cell Y.out 0 _ rfl; have y1 := box_cell Y.out 1 _ rfl; have y2 := box_cell Y.out 2 _ rfl
        have x0 := box_cell X.out 0 _ rfl; have x1 := box_cell X.out 1 _ rfl
        go_wp2_with fail
        go_ret
        exact ⟨by simp, HB.out⟩
set_option maxRecDepth 100000 in
set_option maxHeartbeats 4000000 in
theorem specLastRound_any (w : World) (va : Value) (g : GraphD) (k s r : Int) (h : RdGraph w va g) : Calls Try.prog 31 #[va, .agg #[.int .i64 k, .int .i64 s, .int .i64 r]] w fun e w' => e = .returned (.int .i64 (lastRound g (k, s, r))) ∧ Below w.heap.size w w' := by
  have HRG := Lib.hid h
  obtain ⟨p, c, rfl, hr, hc, hmx⟩ := h.form
  clear h hr
  have hL : (lastRound g (k, s, r)) = if graphOk g = true ∧ progOk k s r = true then (if k = 4 ∨ k = 6 then r + 1 else if k = 5 then 3 else g.1 + 1) else -1 := rfl
  rw [hL]; clear hL
  have hgm := fun ho => (graphOk_yes (g := g) ho).1
  have HB : Hid (Below w.heap.size w ((w.alloc (.cells #[.int .i64 g.1, .slice p g.2.length c] 55)).alloc (.cells #[.int .i64 k, .int .i64 s, .int .i64 r] 57))) := Lib.hid (by go_grown)
  have X := Lib.hid (box_alloc (heap_alloc_new w (.cells #[.int .i64 g.1, .slice p g.2.length c] 55)) (.cells #[.int .i64 k, .int .i64 s, .int .i64 r] 57))
  have Y := Lib.hid (heap_alloc_new (w.alloc (.cells #[.int .i64 g.1, .slice p g.2.length c] 55)) (.cells #[.int .i64 k, .int .i64 s, .int .i64 r] 57))
  rw [World.size_alloc] at Y
  have HV := Lib.hid fun wx (hb : Below w.heap.size w wx) => specGraphValid_any wx _ g (HRG.out.keep hb)
  have HP := Lib.hid fun wx => specProgramValid_any k s r wx
  clear HRG
  obtain ⟨m, ys⟩ := g
  simp only at hgm HB X Y HV hc ⊢
  generalize hok : graphOk (m, ys) = ok at *
  generalize ys.length = l at *
  cases ok
  · rw [if_neg (by simp)]
    clear hgm HP
    go_enter Try.func31, Try.ntmps31
    go_wp2_with fail
    generalize ((w.alloc (.cells #[.int .i64 m, .slice p l c] 55)).alloc (.cells #[.int .i64 k, .int .i64 s, .int .i64 r] 57)) = w0 at *
    refine (HV.out _ HB.out).mono ?_
    rintro e w1 ⟨rfl, hb⟩
    replace HB := Lib.hid (HB.out.tr hb); clear hb
    go_wp2_with fail
    go_ret
    exact ⟨rfl, HB.out⟩
  · replace hgm := hgm rfl
    cases hpk : progOk k s r
    · rw [hpk] at HP
      rw [if_neg (by simp)]
      clear hpk
      go_enter Try.func31, Try.ntmps31
      go_wp2_with fail
      generalize ((w.alloc (.cells #[.int .i64 m, .slice p l c] 55)).alloc (.cells #[.int .i64 k, .int .i64 s, .int .i64 r] 57)) = w0 at *
      refine (HV.out _ HB.out).mono ?_
      rintro e w1 ⟨rfl, hb⟩
      replace HB := Lib.hid (HB.out.tr hb); replace Y := Lib.hid (box_keep Y.out hb); clear hb
      have y0 := box_cell Y.out 0 _ rfl; have y1 := box_cell Y.out 1 _ rfl; have y2 := box_cell Y.out 2 _ rfl
      go_wp2_with fail
      refine (HP.out _).mono ?_
      rintro e w2 ⟨rfl, hb⟩
      replace HB := Lib.hid (HB.out.tr hb); clear hb y0 y1 y2
      go_wp2_with fail
      go_ret
      exact ⟨rfl, HB.out⟩
    · rw [hpk] at HP
      rw [if_pos ⟨rfl, rfl⟩]
      obtain ⟨hk, hr0, hr1⟩ := progOk_kinds hpk
      clear hpk
      rcases hk with rfl | rfl | rfl | rfl | rfl | rfl
      all_goals
        go_enter Try.func31, Try.ntmps31
        go_wp2_with fail
        generalize ((w.alloc (.cells #[.int .i64 m, .slice p l c] 55)).alloc _) = w0 at *
        refine (HV.out _ HB.out).mono ?_
        rintro e w1 ⟨rfl, hb⟩
        replace HB := Lib.hid (HB.out.tr hb); replace Y := Lib.hid (box_keep Y.out hb); replace X := Lib.hid (box_keep X.out hb); clear hb
        have y0 := box_cell Y.out 0 _ rfl; have y1 := box_cell Y.out 1 _ rfl; have y2 := box_cell Y.out 2 _ rfl
        go_wp2_with fail
        refine (HP.out _).mono ?_
        rintro e w2 ⟨rfl, hb⟩
        replace HB := Lib.hid (HB.out.tr hb); replace Y := Lib.hid (box_keep Y.out hb); replace X := Lib.hid (box_keep X.out hb); clear hb y0 y1 y2
        have y0 := box_cell Y.out 0 _ rfl; have y1 := box_cell Y.out 1 _ rfl; have y2 := box_cell Y.out 2 _ rfl
        have x0 := box_cell X.out 0 _ rfl; have x1 := box_cell X.out 1 _ rfl
        go_wp2_with fail
        go_ret
        exact ⟨by simp, HB.out⟩
end Go.Proofs.Ytgdggkhdollieaa
