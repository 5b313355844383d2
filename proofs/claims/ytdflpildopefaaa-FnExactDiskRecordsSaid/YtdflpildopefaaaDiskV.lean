/-
  Which disks are valid: the program's function and the reference's.
-/
import Derived.Test.YtdflpildopefaaaDisk
namespace Go.Proofs.Ytdflpildopefaaa
open Go.RowKit

def diskOk (d : DiskD) : Bool := bytesOk (d.1 ++ d.2)
theorem bytesOk_append (xs ys : List Int) : bytesOk (xs ++ ys) = (bytesOk xs && bytesOk ys && decide (xs.length + ys.length ≤ 2000)) := by
  rw [Bool.eq_iff_iff]
  simp only [bytesOk, Bool.and_eq_true, decide_eq_true_eq, List.all_append, List.length_append]
  constructor
  · rintro ⟨h1, h2, h3⟩; exact ⟨⟨⟨by omega, h2⟩, by omega, h3⟩, h1⟩
  · rintro ⟨⟨⟨_, h2⟩, _, h3⟩, h1⟩; exact ⟨h1, h2, h3⟩

set_option maxRecDepth 100000 in
set_option maxHeartbeats 1000000 in
theorem implDiskValid_any (w : World) (va : Value) (d : DiskD) (h : RdDisk w va d) :
    Calls Try.prog 17 #[va] w fun e w' => e = .returned (.bool (diskOk d)) ∧ Below w.heap.size w w' := by
  obtain ⟨v0, v1, rfl, h0, h1⟩ := h
  have H0 := Lib.hid h0; have H1 := Lib.hid h1
  obtain ⟨-, p0, c0, rfl, -, -, -⟩ := h0
  obtain ⟨-, p1, c1, rfl, -, -, -⟩ := h1
  rw [diskOk, bytesOk_append]
  have HB : Hid (Below w.heap.size w (w.alloc (.cells #[.slice p0 d.1.length c0, .slice p1 d.2.length c1] 25))) := Lib.hid ((Below.refl _ _).alloc (Nat.le_refl _) _)
  have X := Lib.hid (heap_alloc_new w (.cells #[.slice p0 d.1.length c0, .slice p1 d.2.length c1] 25))
  generalize hb0 : bytesOk d.1 = b0
  generalize hb1 : bytesOk d.2 = b1
  generalize hbd : decide (d.1.length + d.2.length ≤ 2000) = bd
  have E0 := Lib.hid hb0; have E1 := Lib.hid hb1; have ED := Lib.hid hbd; clear hb0 hb1 hbd
  have C0 := implBytesValid_any _ _ d.1 (H0.out.keep HB.out)
  rw [E0.out] at C0
  replace C0 := Lib.hid C0
  cases b0
  · go_enter Try.func17, Try.ntmps17
    go_wp2_with fail
    refine C0.out.mono ?_
    rintro e w1 ⟨rfl, hb1⟩
    replace HB := Lib.hid (HB.out.tr hb1); clear hb1
    go_wp2_with fail
    go_ret
    exact ⟨rfl, HB.out⟩
  · cases b1
    all_goals
      go_enter Try.func17, Try.ntmps17
      go_wp2_with fail
      refine C0.out.mono ?_
      rintro e w1 ⟨rfl, hb1⟩
      replace X := Lib.hid (box_keep X.out hb1)
      replace HB := Lib.hid (HB.out.tr hb1); clear hb1 C0
      have C1 := implBytesValid_any w1 _ d.2 (H1.out.keep HB.out)
      rw [E1.out] at C1
      replace C1 := Lib.hid C1
      have k1 := box_cell X.out 1 _ rfl
      go_wp2_with fail
      refine C1.out.mono ?_
      rintro e w2 ⟨rfl, hb2⟩
      replace X := Lib.hid (box_keep X.out hb2)
      replace HB := Lib.hid (HB.out.tr hb2); clear hb2 k1
      have k0 := box_cell X.out 0 _ rfl
      have k1 := box_cell X.out 1 _ rfl
    · go_wp2_with fail
      go_ret
      exact ⟨rfl, HB.out⟩
    · have l0 := (bytesOk_rng E0.out).1
      have l1 := (bytesOk_rng E1.out).1
      cases bd
      · have hd : decide ((d.1.length : Int) + (d.2.length : Int) ≤ 2000) = false := by have := ED.out; simp at this; simp; omega
        go_wp2_with fail
        go_ret
        exact ⟨rfl, HB.out⟩
      · have hd : decide ((d.1.length : Int) + (d.2.length : Int) ≤ 2000) = true := by have := ED.out; simp at this; simp; omega
        go_wp2_with fail
        go_ret
        exact ⟨rfl, HB.out⟩

set_option maxRecDepth 100000 in
set_option maxHeartbeats 1000000 in
theorem specDiskValid_any (w : World) (va : Value) (d : DiskD) (h : RdDisk w va d) :
    Calls Try.prog 18 #[va] w fun e w' => e = .returned (.bool (diskOk d)) ∧ Below w.heap.size w w' := by
  obtain ⟨v0, v1, rfl, h0, h1⟩ := h
  have H0 := Lib.hid h0; have H1 := Lib.hid h1
  obtain ⟨-, p0, c0, rfl, -, -, -⟩ := h0
  obtain ⟨-, p1, c1, rfl, -, -, -⟩ := h1
  have HB : Hid (Below w.heap.size w (w.alloc (.cells #[.slice p0 d.1.length c0, .slice p1 d.2.length c1] 25))) := Lib.hid ((Below.refl _ _).alloc (Nat.le_refl _) _)
  by_cases hs : d.1.length ≤ 2000
  · by_cases hf : d.2.length ≤ 2000
    · have k0 : (w.alloc (.cells #[.slice p0 d.1.length c0, .slice p1 d.2.length c1] 25)).cell? ⟨w.heap.size, 0, none⟩ = some (.slice p0 d.1.length c0) := box_cell (heap_alloc_new _ _) 0 _ rfl
      have k1 : (w.alloc (.cells #[.slice p0 d.1.length c0, .slice p1 d.2.length c1] 25)).cell? ⟨w.heap.size, 1, none⟩ = some (.slice p1 d.2.length c1) := box_cell (heap_alloc_new _ _) 1 _ rfl
      have d0 : decide ((d.1.length : Int) ≤ 2000) = true := by simp; omega
      have d1 : decide ((d.2.length : Int) ≤ 2000) = true := by simp; omega
      unfold diskOk
      generalize hbo : bytesOk (d.1 ++ d.2) = bo
      have HBO := Lib.hid hbo; clear hbo
      go_enter Try.func18, Try.ntmps18
      go_wp2_with fail
      have hlt : w.heap.size < (w.alloc (.cells #[.slice p0 d.1.length c0, .slice p1 d.2.length c1] 25)).heap.size := by simp
      generalize (w.alloc (.cells #[.slice p0 d.1.length c0, .slice p1 d.2.length c1] 25)) = w0 at *
      have R0 := Lib.hid (H0.out.keep HB.out); have R1 := Lib.hid (H1.out.keep HB.out)
      clear H0 H1
      have O0 := Lib.hid (World.ownsRow_made (base := w0.heap.size) (size := 1) (e := 3) w0 #[] 0 (Nat.le_refl _) (by decide) rfl)
      have BA := Lib.hid ((Below.refl w0.heap.size w0).alloc (Nat.le_refl _) (.cells #[] 3))
      go_region_held3 (fun w' => w'.cell? ⟨w.heap.size, 0, none⟩ = some (.slice p0 d.1.length c0) ∧ w'.cell? ⟨w.heap.size, 1, none⟩ = some (.slice p1 d.2.length c1)) (go_keep) (first
        | (refine step_pushAllB rfl _ _ 23 3 rfl (.int .i64 0) 1 8 Try.underlying23 infoInt rfl (by decide) (by decide) w0.heap.size _ 0 [] O0.out.drew rfl (.slice p0 d.1.length c0) d.1.length (ints d.1) (R0.out.keep BA.out.drew) rfl (ints_one _) (by omega) (by omega) (by simp) ?_; intro v' w1 hown1 hbel1 _; simp only [Nat.zero_add, List.nil_append] at hown1; have kk0 := (hbel1.cell (p := ⟨w.heap.size, 0, none⟩) hlt).trans (((Below.refl w0.heap.size w0).alloc (Nat.le_refl _) (.cells #[] 3)).drew.cell (p := ⟨w.heap.size, 0, none⟩) hlt |>.trans k0); have kk1 := (hbel1.cell (p := ⟨w.heap.size, 1, none⟩) hlt).trans (((Below.refl w0.heap.size w0).alloc (Nat.le_refl _) (.cells #[] 3)).drew.cell (p := ⟨w.heap.size, 1, none⟩) hlt |>.trans k1); have BB := Lib.hid (BA.out.drew.trans hbel1))
        | (refine step_pushAllB rfl _ _ 23 3 rfl (.int .i64 0) 1 8 Try.underlying23 infoInt rfl (by decide) (by decide) w0.heap.size _ _ _ hown1 rfl (.slice p1 d.2.length c1) d.2.length (ints d.2) (R1.out.keep BB.out) rfl (ints_one _) (by omega) (by omega) BB.out.size ?_; intro v'' w2 hown2 hbel2 _; have kk2 := (hbel2.cell (p := ⟨w.heap.size, 0, none⟩) hlt).trans kk0; have kk3 := (hbel2.cell (p := ⟨w.heap.size, 1, none⟩) hlt).trans kk1; replace BB := Lib.hid (BB.out.trans hbel2); clear kk0 kk1)
        | (go_at_call 62; have c9 := specBytesValid_any w2 _ (d.1 ++ d.2) (by have := Rd.of_own hown2; rw [List.length_append, ints_append]; exact this); rw [HBO.out] at c9; refine c9.mono ?_; clear c9; rintro e w3 ⟨rfl, hb3⟩; have kk4 := (hb3.cell (p := ⟨w.heap.size, 0, none⟩) (World.block_lt_of_cell? _ _ kk2)).trans kk2; have kk5 := (hb3.cell (p := ⟨w.heap.size, 1, none⟩) (World.block_lt_of_cell? _ _ kk3)).trans kk3; have BC := Lib.hid (BB.out.tr hb3)))
      go_wp2_with fail
      go_ret
      exact ⟨rfl, HB.out.tr BC.out⟩
    · have d0 : decide ((d.1.length : Int) ≤ 2000) = true := by simp; omega
      have d1 : decide ((d.2.length : Int) ≤ 2000) = false := by simp; omega
      have e : diskOk d = false := bytesOk_len (by rw [List.length_append]; omega)
      rw [e]
      go_enter Try.func18, Try.ntmps18
      go_wp2_with fail
      go_quiet (fail)
      go_wp2_with fail
      go_ret
      exact ⟨rfl, HB.out.drewN' _⟩
  · have d0 : decide ((d.1.length : Int) ≤ 2000) = false := by simp; omega
    have e : diskOk d = false := bytesOk_len (by rw [List.length_append]; omega)
    rw [e]
    go_enter Try.func18, Try.ntmps18
    go_wp2_with fail
    go_quiet (fail)
    go_wp2_with fail
    go_ret
    exact ⟨rfl, HB.out.drewN' _⟩
end Go.Proofs.Ytdflpildopefaaa
