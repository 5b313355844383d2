/-
  Disks: DiskCrash: the program's, the reference's.
-/
import Derived.Test.YtdflpildopefaaaDiskS
namespace Go.Proofs.Ytdflpildopefaaa
open Go.RowKit
set_option linter.unusedVariables false

set_option maxRecDepth 100000 in
set_option maxHeartbeats 2000000 in
theorem implDiskCrash_any (w : World) (va : Value) (d : DiskD) (keep : Int) (hk : In64 keep) (h : RdDisk w va d) :
    Calls Try.prog 40 #[va, .int .i64 keep] w fun e w' => ∃ v, e = .returned v ∧ OwDisk w.heap.size w'.heap.size w' v (crashD d keep) ∧ Below w.heap.size w w' := by
  obtain ⟨v0, v1, rfl, h0, h1⟩ := h
  have hb : Below w.heap.size w ((w.alloc (.cells #[v0, v1] 25)).alloc (.cells #[.slice none 0 0, .slice none 0 0] 25)) := ((Below.refl _ _).alloc (Nat.le_refl _) _).alloc (by simp) _
  have HD : Hid (RdDisk ((w.alloc (.cells #[v0, v1] 25)).alloc (.cells #[.slice none 0 0, .slice none 0 0] 25)) (.agg #[v0, v1]) d) := Lib.hid ⟨v0, v1, rfl, h0.keep hb, h1.keep hb⟩
  have HB := Lib.hid hb
  have X := Lib.hid (box_alloc (heap_alloc_new w (.cells #[v0, v1] 25)) (.cells #[.slice none 0 0, .slice none 0 0] 25))
  have Y := Lib.hid (heap_alloc_new (w.alloc (.cells #[v0, v1] 25)) (.cells #[.slice none 0 0, .slice none 0 0] 25))
  clear hb
  obtain ⟨-, p0, c0, rfl, -, -, -⟩ := h0
  obtain ⟨-, p1, c1, rfl, -, -, -⟩ := h1
  simp only [World.size_alloc] at Y
  have C0 := implDiskValid_any _ _ d HD.out
  by_cases hok : diskOk d = true
  · by_cases hk0 : 0 ≤ keep
    · obtain ⟨k, rfl⟩ := Int.eq_ofNat_of_zero_le hk0
      have hlen := bytesOk_lens hok
      rw [hok] at C0
      replace C0 := Lib.hid C0
      have HK := Lib.hid fun wx h => kept_any wx (.agg #[.slice p0 d.1.length c0, .slice p1 d.2.length c1]) d k h (by obtain ⟨_, _⟩ := hk; omega) (by omega)
      rw [crashD_yes hok hk0, show ((k : Int)).toNat = k from rfl]
      generalize d.1 ++ d.2.take k = out at *
      go_enter Try.func40, Try.ntmps40
      go_wp2_with fail
      generalize ((w.alloc (.cells #[.slice p0 d.1.length c0, .slice p1 d.2.length c1] 25)).alloc (.cells #[.slice none 0 0, .slice none 0 0] 25)) = w0 at *
      refine C0.out.mono ?_
      rintro e w1 ⟨rfl, hb1⟩
      replace X := Lib.hid (box_keep X.out hb1); replace HD := Lib.hid (HD.out.keep hb1); replace Y := Lib.hid (box_keep Y.out hb1); replace HB := Lib.hid (HB.out.tr hb1); clear hb1 C0
      have k0 := box_cell X.out 0 (.slice p0 d.1.length c0) rfl; have k1 := box_cell X.out 1 (.slice p1 d.2.length c1) rfl
      have hyl := box_lt Y.out
      go_wp2_with fail
      refine (HK.out _ HD.out).mono ?_
      rintro e w2 ⟨v, rfl, ho, hb2⟩
      replace Y := Lib.hid (box_keep Y.out hb2); replace HB := Lib.hid (HB.out.tr hb2); clear hb2 HK k0 k1 X HD
      obtain ⟨x0, x1, mid, rfl, m1, m2, y0, y1⟩ := ho
      obtain ⟨-, q0, e0, rfl, -, -, -⟩ := y0.rd
      obtain ⟨-, q1, e1, rfl, -, -, -⟩ := y1.rd
      have Y0 := Lib.hid y0; have Y1 := Lib.hid y1; clear y0 y1
      have f0 := box_frozen Y.out 0; have f1 := box_frozen Y.out 1
      have k0 := box_cell Y.out 0 (.slice none 0 0) rfl; have k1 := box_cell Y.out 1 (.slice none 0 0) rfl
      go_wp2_with fail
      have hK : Chg (w.heap.size + 1) (w.heap.size + 1 + 1) w2 ((w2.setCell ⟨w.heap.size + 1, 0, none⟩ (.slice q0 out.length e0)).setCell ⟨w.heap.size + 1, 1, none⟩ (.slice q1 0 e1)) :=
        (Chg.setCell (p := ⟨w.heap.size + 1, 0, none⟩) (by simp) (by simp) _).trans (Chg.setCell (p := ⟨w.heap.size + 1, 1, none⟩) (by simp) (by simp) _)
      have h0 := Y0.out.chg hK (.inl (by omega)); have h1 := Y1.out.chg hK (.inl (by omega))
      exact bodyPost_ret (v := .agg #[.slice q0 out.length e0, .slice q1 0 e1]) (by simp [results, Try.results40, go_sem, k0, k1]) rfl ⟨_, rfl, ⟨_, _, mid, rfl, by omega, by simp; omega, h0.mono (by omega) (Nat.le_refl _), h1.mono (Nat.le_refl _) (by simp)⟩, hK.below HB.out (by omega)⟩
    · rw [hok] at C0
      replace C0 := Lib.hid C0
      have hkn : keep < 0 := by omega
      rw [crashD_no (.inr hkn)]
      go_enter Try.func40, Try.ntmps40
      go_wp2_with fail
      generalize ((w.alloc (.cells #[.slice p0 d.1.length c0, .slice p1 d.2.length c1] 25)).alloc (.cells #[.slice none 0 0, .slice none 0 0] 25)) = w0 at *
      refine C0.out.mono ?_
      rintro e w1 ⟨rfl, hb1⟩
      replace Y := Lib.hid (box_keep Y.out hb1); replace HB := Lib.hid (HB.out.tr hb1); clear hb1 C0 X HD
      have f0 := box_frozen Y.out 0; have f1 := box_frozen Y.out 1
      have k0 := box_cell Y.out 0 (.slice none 0 0) rfl; have k1 := box_cell Y.out 1 (.slice none 0 0) rfl
      go_wp2_with fail
      have hK : Chg (w.heap.size + 1) (w.heap.size + 1 + 1) w1 ((w1.setCell ⟨w.heap.size + 1, 0, none⟩ (.slice none 0 0)).setCell ⟨w.heap.size + 1, 1, none⟩ (.slice none 0 0)) :=
        (Chg.setCell (p := ⟨w.heap.size + 1, 0, none⟩) (by simp) (by simp) _).trans (Chg.setCell (p := ⟨w.heap.size + 1, 1, none⟩) (by simp) (by simp) _)
      have hB := HB.out.size
      exact bodyPost_ret (v := .agg #[.slice none 0 0, .slice none 0 0]) (by simp [results, Try.results40, go_sem, k0, k1]) rfl ⟨_, rfl, ⟨_, _, w.heap.size, rfl, Nat.le_refl _, by simp; omega, Ow.nil _ _ _ _ _ _, Ow.nil _ _ _ _ _ _⟩, hK.below HB.out (by omega)⟩
  · have hok : diskOk d = false := by simpa using hok
    rw [hok] at C0
    replace C0 := Lib.hid C0
    rw [crashD_no (.inl hok)]
    go_enter Try.func40, Try.ntmps40
    go_wp2_with fail
    generalize ((w.alloc (.cells #[.slice p0 d.1.length c0, .slice p1 d.2.length c1] 25)).alloc (.cells #[.slice none 0 0, .slice none 0 0] 25)) = w0 at *
    refine C0.out.mono ?_
    rintro e w1 ⟨rfl, hb1⟩
    replace Y := Lib.hid (box_keep Y.out hb1); replace HB := Lib.hid (HB.out.tr hb1); clear hb1 C0 X HD
    have f0 := box_frozen Y.out 0; have f1 := box_frozen Y.out 1
    have k0 := box_cell Y.out 0 (.slice none 0 0) rfl; have k1 := box_cell Y.out 1 (.slice none 0 0) rfl
    go_wp2_with fail
    have hK : Chg (w.heap.size + 1) (w.heap.size + 1 + 1) w1 ((w1.setCell ⟨w.heap.size + 1, 0, none⟩ (.slice none 0 0)).setCell ⟨w.heap.size + 1, 1, none⟩ (.slice none 0 0)) :=
      (Chg.setCell (p := ⟨w.heap.size + 1, 0, none⟩) (by simp) (by simp) _).trans (Chg.setCell (p := ⟨w.heap.size + 1, 1, none⟩) (by simp) (by simp) _)
    have hB := HB.out.size
    exact bodyPost_ret (v := .agg #[.slice none 0 0, .slice none 0 0]) (by simp [results, Try.results40, go_sem, k0, k1]) rfl ⟨_, rfl, ⟨_, _, w.heap.size, rfl, Nat.le_refl _, by simp; omega, Ow.nil _ _ _ _ _ _, Ow.nil _ _ _ _ _ _⟩, hK.below HB.out (by omega)⟩

set_option maxRecDepth 100000 in
set_option maxHeartbeats 4000000 in
theorem specDiskCrash_any (w : World) (va : Value) (d : DiskD) (keep : Int) (hk : In64 keep) (h : RdDisk w va d) (hs : sizeDisk d ≤ 1099511627776) :
    Calls Try.prog 42 #[va, .int .i64 keep] w fun e w' => ∃ v, e = .returned v ∧ OwDisk w.heap.size w'.heap.size w' v (crashD d keep) ∧ Below w.heap.size w w' := by
  obtain ⟨v0, v1, rfl, h0, h1⟩ := h
  have hb : Below w.heap.size w ((w.alloc (.cells #[v0, v1] 25)).alloc (.cells #[.slice none 0 0, .slice none 0 0] 25)) := ((Below.refl _ _).alloc (Nat.le_refl _) _).alloc (by simp) _
  have HD : Hid (RdDisk ((w.alloc (.cells #[v0, v1] 25)).alloc (.cells #[.slice none 0 0, .slice none 0 0] 25)) (.agg #[v0, v1]) d) := Lib.hid ⟨v0, v1, rfl, h0.keep hb, h1.keep hb⟩
  have HB := Lib.hid hb
  have X := Lib.hid (box_alloc (heap_alloc_new w (.cells #[v0, v1] 25)) (.cells #[.slice none 0 0, .slice none 0 0] 25))
  have Y := Lib.hid (heap_alloc_new (w.alloc (.cells #[v0, v1] 25)) (.cells #[.slice none 0 0, .slice none 0 0] 25))
  clear hb
  obtain ⟨-, p0, c0, rfl, -, -, -⟩ := h0
  obtain ⟨-, p1, c1, rfl, -, -, -⟩ := h1
  simp only [World.size_alloc] at Y
  have C0 := Lib.hid (l1OwnDisk_any _ _ d HD.out hs)
  by_cases hk0 : 0 ≤ keep
  · obtain ⟨k, rfl⟩ := Int.eq_ofNat_of_zero_le hk0
    have hkk : k ≤ 9223372036854775807 := by obtain ⟨_, _⟩ := hk; omega
    clear hk
    by_cases hlt : d.2.length < k
    · go_enter Try.func42, Try.ntmps42
      go_wp2_with fail
      generalize ((w.alloc (.cells #[.slice p0 d.1.length c0, .slice p1 d.2.length c1] 25)).alloc (.cells #[.slice none 0 0, .slice none 0 0] 25)) = w0 at *
      refine C0.out.mono ?_
      rintro e w1 ⟨v, rfl, ho, hb1⟩
      have hyl0 := box_lt Y.out
      replace X := Lib.hid (box_keep X.out hb1); replace Y := Lib.hid (box_keep Y.out hb1); replace HB := Lib.hid (HB.out.tr hb1)
      obtain ⟨x0, x1, mid, rfl, m1, m2, y0, y1⟩ := ho
      obtain ⟨-, q0, e0, rfl, -, -, -⟩ := y0.rd
      obtain ⟨-, q1, e1, rfl, hq1, hm1, -⟩ := y1.rd
      unfold maxLen at hm1
      have Y0 := Lib.hid y0; have Y1 := Lib.hid y1; have hs1 := hb1.size; clear y0 y1 hb1 C0 HD
      have k0 := box_cell X.out 0 (.slice p0 d.1.length c0) rfl; have k1 := box_cell X.out 1 (.slice p1 d.2.length c1) rfl
      have f0 := box_frozen X.out 0; have f1 := box_frozen X.out 1
      have hK : Chg w.heap.size (w.heap.size + 1) w1 ((w1.setCell ⟨w.heap.size, 0, none⟩ (.slice q0 d.1.length e0)).setCell ⟨w.heap.size, 1, none⟩ (.slice q1 d.2.length e1)) :=
        (Chg.setCell (p := ⟨w.heap.size, 0, none⟩) (by simp) (by simp) _).trans (Chg.setCell (p := ⟨w.heap.size, 1, none⟩) (by simp) (by simp) _)
      replace HB := Lib.hid (hK.below HB.out (by omega))
      replace Y0 := Lib.hid (Y0.out.chg hK (.inl (by omega))); replace Y1 := Lib.hid (Y1.out.chg hK (.inl (by omega)))
      replace Y := Lib.hid (box_other (box_other Y.out ⟨w.heap.size, 0, none⟩ (.slice q0 d.1.length e0) (by simp)) ⟨w.heap.size, 1, none⟩ (.slice q1 d.2.length e1) (by simp))
      replace X := Lib.hid (box_set (box_set X.out 0 (.slice q0 d.1.length e0)) 1 (.slice q1 d.2.length e1))
      have HD : Hid (RdDisk ((w1.setCell ⟨w.heap.size, 0, none⟩ (.slice q0 d.1.length e0)).setCell ⟨w.heap.size, 1, none⟩ (.slice q1 d.2.length e1)) (.agg #[.slice q0 d.1.length e0, .slice q1 d.2.length e1]) d) := Lib.hid ⟨_, _, rfl, Y0.out.rd, Y1.out.rd⟩
      clear hK Y0 Y1
      go_wp2_with fail
      clear k0 k1 f0 f1
      generalize ((w1.setCell ⟨w.heap.size, 0, none⟩ (.slice q0 d.1.length e0)).setCell ⟨w.heap.size, 1, none⟩ (.slice q1 d.2.length e1)) = w2 at *
      have C0 := specDiskValid_any _ _ d HD.out

      by_cases hok : diskOk d = true
      · have hlen := bytesOk_lens hok
        rw [hok] at C0
        refine C0.mono ?_
        rintro e w3 ⟨rfl, hb3⟩
        replace X := Lib.hid (box_keep X.out hb3); replace HD := Lib.hid (HD.out.keep hb3); replace Y := Lib.hid (box_keep Y.out hb3); replace HB := Lib.hid (HB.out.tr hb3); clear hb3 C0
        have k0 := box_cell X.out 0 (.slice q0 d.1.length e0) rfl; have k1 := box_cell X.out 1 (.slice q1 d.2.length e1) rfl
        have hyl := box_lt Y.out
        have hle : d.2.length ≤ e1 := by omega
        have hl : w.heap.size < w3.heap.size := by omega
        go_wp2_with fail
        obtain ⟨z0, z1, hz, r0, r1⟩ := HD.out
        obtain ⟨rfl, rfl⟩ : .slice q0 d.1.length e0 = z0 ∧ .slice q1 d.2.length e1 = z1 := by simpa using hz
        have R0 := Lib.hid r0; have R1 := Lib.hid r1; clear r0 r1 hz HD
        have HT : Hid (Rd w3 1 (.slice q1 d.2.length e1) d.2.length (ints (d.2.take k))) := Lib.hid (by
          have h := R1.out.take d.2.length (by omega)
          rw [Nat.mul_one] at h
          first | simpa [ints, List.map_take] using h | (rw [List.take_of_length_le (by omega)]; rw [List.take_of_length_le (by simp [ints])] at h; exact h))
        have HTL : Hid ((d.2.take k).length = d.2.length) := Lib.hid (by rw [List.length_take]; omega)
        generalize hto : d.2.take k = out at *
        have HTO := Lib.hid hto; clear hto
        have O0 := Lib.hid (World.ownsRow_made (base := w3.heap.size) (size := 1) (e := 3) w3 #[] 0 (Nat.le_refl _) (by decide) rfl)
        have BA := Lib.hid ((Below.refl w3.heap.size w3).alloc (Nat.le_refl _) (.cells #[] 3))
        go_region_held3 (fun w' => w'.cell? ⟨w.heap.size, 0, none⟩ = some (.slice q0 d.1.length e0) ∧ w'.cell? ⟨w.heap.size, 1, none⟩ = some (.slice q1 d.2.length e1)) (go_keep) (first
          | (refine step_pushAllB rfl _ _ 23 3 rfl (.int .i64 0) 1 8 Try.underlying23 infoInt rfl (by decide) (by decide) w3.heap.size _ 0 [] O0.out.drew rfl (.slice q0 d.1.length e0) d.1.length (ints d.1) (R0.out.keep BA.out.drew) rfl (ints_one _) (by omega) (by omega) (by simp) ?_; intro v' w4 hown4 hbel4 _; simp only [Nat.zero_add, List.nil_append] at hown4; have kk0 := (hbel4.cell (p := ⟨w.heap.size, 0, none⟩) hl).trans (((Below.refl w3.heap.size w3).alloc (Nat.le_refl _) (.cells #[] 3)).drew.cell (p := ⟨w.heap.size, 0, none⟩) hl |>.trans k0); have kk1 := (hbel4.cell (p := ⟨w.heap.size, 1, none⟩) hl).trans (((Below.refl w3.heap.size w3).alloc (Nat.le_refl _) (.cells #[] 3)).drew.cell (p := ⟨w.heap.size, 1, none⟩) hl |>.trans k1); have BB := Lib.hid (BA.out.drew.trans hbel4))
          | (refine step_pushAllB rfl _ _ 23 3 rfl (.int .i64 0) 1 8 Try.underlying23 infoInt rfl (by decide) (by decide) w3.heap.size _ _ _ hown4 rfl (.slice q1 d.2.length e1) d.2.length (ints out) (HT.out.keep BB.out) rfl (ints_one _) (by omega) (by omega) BB.out.size ?_; intro v'' w5 hown5 hbel5 _; obtain ⟨a5, c5, rfl, _, _⟩ := (Rd.of_own hown5).form; have HO5 := Lib.hid (Ow.of_row hown5); have kk2 := (hbel5.cell (p := ⟨w.heap.size, 0, none⟩) hl).trans kk0; have kk3 := (hbel5.cell (p := ⟨w.heap.size, 1, none⟩) hl).trans kk1; have BC := Lib.hid (BB.out.trans hbel5); have Y5 := Lib.hid (box_keep Y.out BC.out); have g0 := box_frozen Y5.out 0; have g1 := box_frozen Y5.out 1; have h0 := box_cell Y5.out 0 (.slice none 0 0) rfl; have h1 := box_cell Y5.out 1 (.slice none 0 0) rfl; clear kk0 kk1 hown5 hbel5))
        all_goals
          go_wp2_with fail
          have hK : Chg (w.heap.size + 1) (w.heap.size + 1 + 1) w5 ((w5.setCell ⟨w.heap.size + 1, 0, none⟩ (.slice a5 (d.1.length + d.2.length) c5)).setCell ⟨w.heap.size + 1, 1, none⟩ (.slice none 0 0)) :=
            (Chg.setCell (p := ⟨w.heap.size + 1, 0, none⟩) (by simp) (by simp) _).trans (Chg.setCell (p := ⟨w.heap.size + 1, 1, none⟩) (by simp) (by simp) _)
          have h2 := HO5.out.chg hK (.inl (by omega))
          have hB := HB.out.size
          have hC := BC.out.size
          refine bodyPost_ret (v := .agg #[.slice a5 (d.1.length + d.2.length) c5, .slice none 0 0]) (by simp [results, Try.results42, go_sem, h0, h1]) rfl ⟨_, rfl, ?_, hK.below (HB.out.tr BC.out) (by omega)⟩
          rw [crashD_yes hok hk0, show ((k : Int)).toNat = k from rfl, HTO.out]
          refine ⟨_, _, w5.heap.size, rfl, by omega, by simp, ?_, Ow.nil _ _ _ _ _ _⟩
          rw [OwIntS, List.length_append, HTL.out, ints_append]
          exact h2.mono (by omega) (Nat.le_refl _)
      · have hok : diskOk d = false := by simpa using hok
        rw [hok] at C0
        refine C0.mono ?_
        rintro e w3 ⟨rfl, hb3⟩
        replace Y := Lib.hid (box_keep Y.out hb3); replace HB := Lib.hid (HB.out.tr hb3); clear hb3 C0 X HD
        have f0 := box_frozen Y.out 0; have f1 := box_frozen Y.out 1
        have k0 := box_cell Y.out 0 (.slice none 0 0) rfl; have k1 := box_cell Y.out 1 (.slice none 0 0) rfl
        go_wp2_with fail
        have hK : Chg (w.heap.size + 1) (w.heap.size + 1 + 1) w3 ((w3.setCell ⟨w.heap.size + 1, 0, none⟩ (.slice none 0 0)).setCell ⟨w.heap.size + 1, 1, none⟩ (.slice none 0 0)) :=
          (Chg.setCell (p := ⟨w.heap.size + 1, 0, none⟩) (by simp) (by simp) _).trans (Chg.setCell (p := ⟨w.heap.size + 1, 1, none⟩) (by simp) (by simp) _)
        have hB := HB.out.size
        exact bodyPost_ret (v := .agg #[.slice none 0 0, .slice none 0 0]) (by simp [results, Try.results42, go_sem, k0, k1]) rfl ⟨_, rfl, (by rw [crashD_no (.inl hok)]; exact ⟨_, _, w.heap.size, rfl, Nat.le_refl _, by simp; omega, Ow.nil _ _ _ _ _ _, Ow.nil _ _ _ _ _ _⟩), hK.below HB.out (by omega)⟩

    · go_enter Try.func42, Try.ntmps42
      go_wp2_with fail
      generalize ((w.alloc (.cells #[.slice p0 d.1.length c0, .slice p1 d.2.length c1] 25)).alloc (.cells #[.slice none 0 0, .slice none 0 0] 25)) = w0 at *
      refine C0.out.mono ?_
      rintro e w1 ⟨v, rfl, ho, hb1⟩
      have hyl0 := box_lt Y.out
      replace X := Lib.hid (box_keep X.out hb1); replace Y := Lib.hid (box_keep Y.out hb1); replace HB := Lib.hid (HB.out.tr hb1)
      obtain ⟨x0, x1, mid, rfl, m1, m2, y0, y1⟩ := ho
      obtain ⟨-, q0, e0, rfl, -, -, -⟩ := y0.rd
      obtain ⟨-, q1, e1, rfl, hq1, hm1, -⟩ := y1.rd
      unfold maxLen at hm1
      have Y0 := Lib.hid y0; have Y1 := Lib.hid y1; have hs1 := hb1.size; clear y0 y1 hb1 C0 HD
      have k0 := box_cell X.out 0 (.slice p0 d.1.length c0) rfl; have k1 := box_cell X.out 1 (.slice p1 d.2.length c1) rfl
      have f0 := box_frozen X.out 0; have f1 := box_frozen X.out 1
      have hK : Chg w.heap.size (w.heap.size + 1) w1 ((w1.setCell ⟨w.heap.size, 0, none⟩ (.slice q0 d.1.length e0)).setCell ⟨w.heap.size, 1, none⟩ (.slice q1 d.2.length e1)) :=
        (Chg.setCell (p := ⟨w.heap.size, 0, none⟩) (by simp) (by simp) _).trans (Chg.setCell (p := ⟨w.heap.size, 1, none⟩) (by simp) (by simp) _)
      replace HB := Lib.hid (hK.below HB.out (by omega))
      replace Y0 := Lib.hid (Y0.out.chg hK (.inl (by omega))); replace Y1 := Lib.hid (Y1.out.chg hK (.inl (by omega)))
      replace Y := Lib.hid (box_other (box_other Y.out ⟨w.heap.size, 0, none⟩ (.slice q0 d.1.length e0) (by simp)) ⟨w.heap.size, 1, none⟩ (.slice q1 d.2.length e1) (by simp))
      replace X := Lib.hid (box_set (box_set X.out 0 (.slice q0 d.1.length e0)) 1 (.slice q1 d.2.length e1))
      have HD : Hid (RdDisk ((w1.setCell ⟨w.heap.size, 0, none⟩ (.slice q0 d.1.length e0)).setCell ⟨w.heap.size, 1, none⟩ (.slice q1 d.2.length e1)) (.agg #[.slice q0 d.1.length e0, .slice q1 d.2.length e1]) d) := Lib.hid ⟨_, _, rfl, Y0.out.rd, Y1.out.rd⟩
      clear hK Y0 Y1
      go_wp2_with fail
      clear k0 k1 f0 f1
      generalize ((w1.setCell ⟨w.heap.size, 0, none⟩ (.slice q0 d.1.length e0)).setCell ⟨w.heap.size, 1, none⟩ (.slice q1 d.2.length e1)) = w2 at *
      have C0 := specDiskValid_any _ _ d HD.out

      by_cases hok : diskOk d = true
      · have hlen := bytesOk_lens hok
        rw [hok] at C0
        refine C0.mono ?_
        rintro e w3 ⟨rfl, hb3⟩
        replace X := Lib.hid (box_keep X.out hb3); replace HD := Lib.hid (HD.out.keep hb3); replace Y := Lib.hid (box_keep Y.out hb3); replace HB := Lib.hid (HB.out.tr hb3); clear hb3 C0
        have k0 := box_cell X.out 0 (.slice q0 d.1.length e0) rfl; have k1 := box_cell X.out 1 (.slice q1 d.2.length e1) rfl
        have hyl := box_lt Y.out
        have hle : k ≤ e1 := by omega
        have hl : w.heap.size < w3.heap.size := by omega
        go_wp2_with fail
        obtain ⟨z0, z1, hz, r0, r1⟩ := HD.out
        obtain ⟨rfl, rfl⟩ : .slice q0 d.1.length e0 = z0 ∧ .slice q1 d.2.length e1 = z1 := by simpa using hz
        have R0 := Lib.hid r0; have R1 := Lib.hid r1; clear r0 r1 hz HD
        have HT : Hid (Rd w3 1 (.slice q1 k e1) k (ints (d.2.take k))) := Lib.hid (by
          have h := R1.out.take k (by omega)
          rw [Nat.mul_one] at h
          first | simpa [ints, List.map_take] using h | (rw [List.take_of_length_le (by omega)]; rw [List.take_of_length_le (by simp [ints])] at h; exact h))
        have HTL : Hid ((d.2.take k).length = k) := Lib.hid (by rw [List.length_take]; omega)
        generalize hto : d.2.take k = out at *
        have HTO := Lib.hid hto; clear hto
        have O0 := Lib.hid (World.ownsRow_made (base := w3.heap.size) (size := 1) (e := 3) w3 #[] 0 (Nat.le_refl _) (by decide) rfl)
        have BA := Lib.hid ((Below.refl w3.heap.size w3).alloc (Nat.le_refl _) (.cells #[] 3))
        go_region_held3 (fun w' => w'.cell? ⟨w.heap.size, 0, none⟩ = some (.slice q0 d.1.length e0) ∧ w'.cell? ⟨w.heap.size, 1, none⟩ = some (.slice q1 d.2.length e1)) (go_keep) (first
          | (refine step_pushAllB rfl _ _ 23 3 rfl (.int .i64 0) 1 8 Try.underlying23 infoInt rfl (by decide) (by decide) w3.heap.size _ 0 [] O0.out.drew rfl (.slice q0 d.1.length e0) d.1.length (ints d.1) (R0.out.keep BA.out.drew) rfl (ints_one _) (by omega) (by omega) (by simp) ?_; intro v' w4 hown4 hbel4 _; simp only [Nat.zero_add, List.nil_append] at hown4; have kk0 := (hbel4.cell (p := ⟨w.heap.size, 0, none⟩) hl).trans (((Below.refl w3.heap.size w3).alloc (Nat.le_refl _) (.cells #[] 3)).drew.cell (p := ⟨w.heap.size, 0, none⟩) hl |>.trans k0); have kk1 := (hbel4.cell (p := ⟨w.heap.size, 1, none⟩) hl).trans (((Below.refl w3.heap.size w3).alloc (Nat.le_refl _) (.cells #[] 3)).drew.cell (p := ⟨w.heap.size, 1, none⟩) hl |>.trans k1); have BB := Lib.hid (BA.out.drew.trans hbel4))
          | (refine step_pushAllB rfl _ _ 23 3 rfl (.int .i64 0) 1 8 Try.underlying23 infoInt rfl (by decide) (by decide) w3.heap.size _ _ _ hown4 rfl (.slice q1 k e1) k (ints out) (HT.out.keep BB.out) rfl (ints_one _) (by omega) (by omega) BB.out.size ?_; intro v'' w5 hown5 hbel5 _; obtain ⟨a5, c5, rfl, _, _⟩ := (Rd.of_own hown5).form; have HO5 := Lib.hid (Ow.of_row hown5); have kk2 := (hbel5.cell (p := ⟨w.heap.size, 0, none⟩) hl).trans kk0; have kk3 := (hbel5.cell (p := ⟨w.heap.size, 1, none⟩) hl).trans kk1; have BC := Lib.hid (BB.out.trans hbel5); have Y5 := Lib.hid (box_keep Y.out BC.out); have g0 := box_frozen Y5.out 0; have g1 := box_frozen Y5.out 1; have h0 := box_cell Y5.out 0 (.slice none 0 0) rfl; have h1 := box_cell Y5.out 1 (.slice none 0 0) rfl; clear kk0 kk1 hown5 hbel5))
        all_goals
          go_wp2_with fail
          have hK : Chg (w.heap.size + 1) (w.heap.size + 1 + 1) w5 ((w5.setCell ⟨w.heap.size + 1, 0, none⟩ (.slice a5 (d.1.length + k) c5)).setCell ⟨w.heap.size + 1, 1, none⟩ (.slice none 0 0)) :=
            (Chg.setCell (p := ⟨w.heap.size + 1, 0, none⟩) (by simp) (by simp) _).trans (Chg.setCell (p := ⟨w.heap.size + 1, 1, none⟩) (by simp) (by simp) _)
          have h2 := HO5.out.chg hK (.inl (by omega))
          have hB := HB.out.size
          have hC := BC.out.size
          refine bodyPost_ret (v := .agg #[.slice a5 (d.1.length + k) c5, .slice none 0 0]) (by simp [results, Try.results42, go_sem, h0, h1]) rfl ⟨_, rfl, ?_, hK.below (HB.out.tr BC.out) (by omega)⟩
          rw [crashD_yes hok hk0, show ((k : Int)).toNat = k from rfl, HTO.out]
          refine ⟨_, _, w5.heap.size, rfl, by omega, by simp, ?_, Ow.nil _ _ _ _ _ _⟩
          rw [OwIntS, List.length_append, HTL.out, ints_append]
          exact h2.mono (by omega) (Nat.le_refl _)
      · have hok : diskOk d = false := by simpa using hok
        rw [hok] at C0
        refine C0.mono ?_
        rintro e w3 ⟨rfl, hb3⟩
        replace Y := Lib.hid (box_keep Y.out hb3); replace HB := Lib.hid (HB.out.tr hb3); clear hb3 C0 X HD
        have f0 := box_frozen Y.out 0; have f1 := box_frozen Y.out 1
        have k0 := box_cell Y.out 0 (.slice none 0 0) rfl; have k1 := box_cell Y.out 1 (.slice none 0 0) rfl
        go_wp2_with fail
        have hK : Chg (w.heap.size + 1) (w.heap.size + 1 + 1) w3 ((w3.setCell ⟨w.heap.size + 1, 0, none⟩ (.slice none 0 0)).setCell ⟨w.heap.size + 1, 1, none⟩ (.slice none 0 0)) :=
          (Chg.setCell (p := ⟨w.heap.size + 1, 0, none⟩) (by simp) (by simp) _).trans (Chg.setCell (p := ⟨w.heap.size + 1, 1, none⟩) (by simp) (by simp) _)
        have hB := HB.out.size
        exact bodyPost_ret (v := .agg #[.slice none 0 0, .slice none 0 0]) (by simp [results, Try.results42, go_sem, k0, k1]) rfl ⟨_, rfl, (by rw [crashD_no (.inl hok)]; exact ⟨_, _, w.heap.size, rfl, Nat.le_refl _, by simp; omega, Ow.nil _ _ _ _ _ _, Ow.nil _ _ _ _ _ _⟩), hK.below HB.out (by omega)⟩

  · have hkn : keep < 0 := by omega
    obtain ⟨hk1, hk2⟩ := hk
    go_enter Try.func42, Try.ntmps42
    go_wp2_with fail
    generalize ((w.alloc (.cells #[.slice p0 d.1.length c0, .slice p1 d.2.length c1] 25)).alloc (.cells #[.slice none 0 0, .slice none 0 0] 25)) = w0 at *
    refine C0.out.mono ?_
    rintro e w1 ⟨v, rfl, ho, hb1⟩
    have hyl0 := box_lt Y.out
    replace X := Lib.hid (box_keep X.out hb1); replace Y := Lib.hid (box_keep Y.out hb1); replace HB := Lib.hid (HB.out.tr hb1)
    obtain ⟨x0, x1, mid, rfl, m1, m2, y0, y1⟩ := ho
    obtain ⟨-, q0, e0, rfl, -, -, -⟩ := y0.rd
    obtain ⟨-, q1, e1, rfl, hq1, hm1, -⟩ := y1.rd
    unfold maxLen at hm1
    have Y0 := Lib.hid y0; have Y1 := Lib.hid y1; have hs1 := hb1.size; clear y0 y1 hb1 C0 HD
    have k0 := box_cell X.out 0 (.slice p0 d.1.length c0) rfl; have k1 := box_cell X.out 1 (.slice p1 d.2.length c1) rfl
    have f0 := box_frozen X.out 0; have f1 := box_frozen X.out 1
    have hK : Chg w.heap.size (w.heap.size + 1) w1 ((w1.setCell ⟨w.heap.size, 0, none⟩ (.slice q0 d.1.length e0)).setCell ⟨w.heap.size, 1, none⟩ (.slice q1 d.2.length e1)) :=
      (Chg.setCell (p := ⟨w.heap.size, 0, none⟩) (by simp) (by simp) _).trans (Chg.setCell (p := ⟨w.heap.size, 1, none⟩) (by simp) (by simp) _)
    replace HB := Lib.hid (hK.below HB.out (by omega))
    replace Y0 := Lib.hid (Y0.out.chg hK (.inl (by omega))); replace Y1 := Lib.hid (Y1.out.chg hK (.inl (by omega)))
    replace Y := Lib.hid (box_other (box_other Y.out ⟨w.heap.size, 0, none⟩ (.slice q0 d.1.length e0) (by simp)) ⟨w.heap.size, 1, none⟩ (.slice q1 d.2.length e1) (by simp))
    replace X := Lib.hid (box_set (box_set X.out 0 (.slice q0 d.1.length e0)) 1 (.slice q1 d.2.length e1))
    have HD : Hid (RdDisk ((w1.setCell ⟨w.heap.size, 0, none⟩ (.slice q0 d.1.length e0)).setCell ⟨w.heap.size, 1, none⟩ (.slice q1 d.2.length e1)) (.agg #[.slice q0 d.1.length e0, .slice q1 d.2.length e1]) d) := Lib.hid ⟨_, _, rfl, Y0.out.rd, Y1.out.rd⟩
    clear hK Y0 Y1
    go_wp2_with fail
    clear k0 k1 f0 f1
    generalize ((w1.setCell ⟨w.heap.size, 0, none⟩ (.slice q0 d.1.length e0)).setCell ⟨w.heap.size, 1, none⟩ (.slice q1 d.2.length e1)) = w2 at *
    have C0 := specDiskValid_any _ _ d HD.out

    generalize diskOk d = bo at C0
    refine C0.mono ?_
    rintro e w3 ⟨rfl, hb3⟩
    replace Y := Lib.hid (box_keep Y.out hb3); replace HB := Lib.hid (HB.out.tr hb3); clear hb3 C0 X HD
    have f0 := box_frozen Y.out 0; have f1 := box_frozen Y.out 1
    have k0 := box_cell Y.out 0 (.slice none 0 0) rfl; have k1 := box_cell Y.out 1 (.slice none 0 0) rfl
    cases bo
    all_goals
      go_wp2_with fail
      have hK : Chg (w.heap.size + 1) (w.heap.size + 1 + 1) w3 ((w3.setCell ⟨w.heap.size + 1, 0, none⟩ (.slice none 0 0)).setCell ⟨w.heap.size + 1, 1, none⟩ (.slice none 0 0)) :=
        (Chg.setCell (p := ⟨w.heap.size + 1, 0, none⟩) (by simp) (by simp) _).trans (Chg.setCell (p := ⟨w.heap.size + 1, 1, none⟩) (by simp) (by simp) _)
      have hB := HB.out.size
      exact bodyPost_ret (v := .agg #[.slice none 0 0, .slice none 0 0]) (by simp [results, Try.results42, go_sem, k0, k1]) rfl ⟨_, rfl, (by rw [crashD_no (.inr hkn)]; exact ⟨_, _, w.heap.size, rfl, Nat.le_refl _, by simp; omega, Ow.nil _ _ _ _ _ _, Ow.nil _ _ _ _ _ _⟩), hK.below HB.out (by omega)⟩

end Go.Proofs.Ytdflpildopefaaa
