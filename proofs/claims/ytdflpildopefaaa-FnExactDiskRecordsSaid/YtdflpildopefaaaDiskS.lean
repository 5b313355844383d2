/-
  Disks: what is kept (the program's), a copy that shares nothing (the reference's), DiskSync and DiskCrash, marking and finding.
-/
import Derived.Test.YtdflpildopefaaaDiskV
import Derived.Test.YtdflpildopefaaaDisksP
import Derived.Test.YtdflpildopefaaaConcat
import Derived.StillTailTactics
namespace Go.Proofs.Ytdflpildopefaaa
open Go.RowKit
set_option linter.unusedVariables false

theorem RdIntSS.two {w : World} {g : Nat} {u0 u1 : Value} {xs ys : List Int} (h : w.heap[g]? = some (.cells #[u0, u1] 23 (0, 0))) (h0 : RdIntS w u0 xs) (h1 : RdIntS w u1 ys) :
    RdIntSS w (.slice (some ⟨g, 0, none⟩) 2 2) [xs, ys] := by
  refine ⟨[u0, u1], ⟨rfl, _, _, rfl, Nat.le_refl _, by unfold maxLen; omega, .inr ⟨g, 0, rfl, fun i hi => ?_⟩⟩, fun i hi => ?_⟩
  · match i, hi with
    | 0, _ => exact box_cell h 0 _ rfl
    | 1, _ => exact box_cell h 1 _ rfl
  · match i, hi with
    | 0, _ => exact ⟨u0, rfl, h0⟩
    | 1, _ => exact ⟨u1, rfl, h1⟩

set_option maxRecDepth 100000 in
set_option maxHeartbeats 2000000 in
theorem kept_any (w : World) (va : Value) (d : DiskD) (keep : Nat) (h : RdDisk w va d) (hk : keep ≤ 9223372036854775807) (hs : d.1.length + d.2.length ≤ 1099511627776) :
    Calls Try.prog 75 #[va, .int .i64 (keep : Int)] w fun e w' => ∃ v, e = .returned v ∧ OwDisk w.heap.size w'.heap.size w' v (d.1 ++ d.2.take keep, []) ∧ Below w.heap.size w w' := by
  obtain ⟨v0, v1, rfl, h0, h1⟩ := h
  have hb : Below w.heap.size w ((w.alloc (.cells #[v0, v1] 25)).alloc (.cells #[.slice none 0 0, .slice none 0 0] 25)) := ((Below.refl _ _).alloc (Nat.le_refl _) _).alloc (by simp) _
  have H0 := Lib.hid (h0.keep hb); have H1 := Lib.hid (h1.keep hb)
  have HB := Lib.hid hb
  have X := Lib.hid (box_alloc (heap_alloc_new w (.cells #[v0, v1] 25)) (.cells #[.slice none 0 0, .slice none 0 0] 25))
  have Y := Lib.hid (heap_alloc_new (w.alloc (.cells #[v0, v1] 25)) (.cells #[.slice none 0 0, .slice none 0 0] 25))
  clear hb
  obtain ⟨-, p0, c0, rfl, -, -, -⟩ := h0
  obtain ⟨-, p1, c1, rfl, hc1, hm1, -⟩ := h1
  unfold maxLen at hm1
  simp only [World.size_alloc] at Y
  have k1 := box_cell X.out 1 (.slice p1 d.2.length c1) rfl
  have k0 := box_cell X.out 0 (.slice p0 d.1.length c0) rfl
  by_cases hlt : d.2.length < keep
  · have hle : d.2.length ≤ c1 := by omega
    go_enter Try.func75, Try.ntmps75
    go_wp2_with fail
    generalize ((w.alloc (.cells #[.slice p0 d.1.length c0, .slice p1 d.2.length c1] 25)).alloc (.cells #[.slice none 0 0, .slice none 0 0] 25)) = w0 at *
    go_still_tail 6, (by kernel_rfl)
    change wpList _ _ _ _ _ w0.drew
    have HBA : Hid (Below w0.heap.size w0 (w0.drew.alloc (.cells #[.slice p0 d.1.length c0, .slice p1 d.2.length c1] 23))) := Lib.hid ((Below.refl _ _).drew.alloc (Nat.le_refl _) _)
    have X2 := Lib.hid (heap_alloc_new w0.drew (.cells #[.slice p0 d.1.length c0, .slice p1 d.2.length c1] 23))
    have hsz0 := HB.out.size
    have hyl := box_lt Y.out
    replace Y := Lib.hid (box_keep Y.out HBA.out)
    have hszA : (w0.drew.alloc (.cells #[.slice p0 d.1.length c0, .slice p1 d.2.length c1] 23)).heap.size = w0.heap.size + 1 := by simp
    replace HB := Lib.hid (HB.out.tr HBA.out)
    have hT : RdIntS w0 (.slice p1 d.2.length c1) (d.2.take keep) := by
      have h := H1.out.take d.2.length (by omega)
      rw [Nat.mul_one] at h
      have e1 : (d.2.take keep).length = d.2.length := by rw [List.length_take]; omega
      have e2 : d.2.take keep = d.2.take d.2.length := by first | rfl | (rw [List.take_of_length_le (by omega), List.take_of_length_le (Nat.le_refl _)])
      rw [RdIntS, e1, e2]
      first | simpa [ints, List.map_take] using h | (rw [List.take_of_length_le (Nat.le_refl _)]; rw [List.take_of_length_le (by simp [ints])] at h; exact h)
    have HRR := Lib.hid (RdIntSS.two X2.out (H0.out.keep HBA.out) (hT.keep HBA.out))
    have hf : [d.1, d.2.take keep].flatten = d.1 ++ d.2.take keep := by simp
    clear hT X2 k0 k1 X H0 H1 HBA
    have G := Lib.hid (concatInt_any _ _ _ HRR.out (by simp [cntIntSS, cntTo]; omega))
    rw [hf] at G
    clear hf HRR
    generalize hout : d.1 ++ d.2.take keep = out at *
    have HOUT := Lib.hid hout; clear hout
    go_wp2_with fail
    refine G.out.mono ?_
    rintro e w3 ⟨v3, rfl, ho3, hb3⟩
    obtain ⟨a3, c3, rfl, -, -⟩ := ho3.rd.form
    have HO := Lib.hid ho3
    replace Y := Lib.hid (box_keep Y.out hb3)
    have hsz3 := hb3.size
    replace HB := Lib.hid (HB.out.tr hb3)
    clear ho3 hb3 G
    have f0 := box_frozen Y.out 0; have f1 := box_frozen Y.out 1
    have k0 := box_cell Y.out 0 (.slice none 0 0) rfl; have k1 := box_cell Y.out 1 (.slice none 0 0) rfl
    go_wp2_with fail
    have hK : Chg (w.heap.size + 1) (w.heap.size + 1 + 1) w3 ((w3.setCell ⟨w.heap.size + 1, 0, none⟩ (.slice a3 out.length c3)).setCell ⟨w.heap.size + 1, 1, none⟩ (.slice none 0 0)) :=
      (Chg.setCell (p := ⟨w.heap.size + 1, 0, none⟩) (by simp) (by simp) _).trans (Chg.setCell (p := ⟨w.heap.size + 1, 1, none⟩) (by simp) (by simp) _)
    have HO' := HO.out.chg hK (.inl (by omega))
    refine bodyPost_ret (v := .agg #[.slice a3 out.length c3, .slice none 0 0]) (by simp [results, Try.results75, go_sem, k0, k1]) rfl ⟨_, rfl, ⟨_, _, w3.heap.size, rfl, by omega, by simp, ?_, Ow.nil _ _ _ _ _ _⟩, hK.below HB.out (by omega)⟩
    rw [HOUT.out]
    exact HO'.mono (by omega) (Nat.le_refl _)
  · have hle : keep ≤ c1 := by omega
    go_enter Try.func75, Try.ntmps75
    go_wp2_with fail
    generalize ((w.alloc (.cells #[.slice p0 d.1.length c0, .slice p1 d.2.length c1] 25)).alloc (.cells #[.slice none 0 0, .slice none 0 0] 25)) = w0 at *
    go_still_tail 6, (by kernel_rfl)
    change wpList _ _ _ _ _ w0.drew
    have HBA : Hid (Below w0.heap.size w0 (w0.drew.alloc (.cells #[.slice p0 d.1.length c0, .slice p1 keep c1] 23))) := Lib.hid ((Below.refl _ _).drew.alloc (Nat.le_refl _) _)
    have X2 := Lib.hid (heap_alloc_new w0.drew (.cells #[.slice p0 d.1.length c0, .slice p1 keep c1] 23))
    have hsz0 := HB.out.size
    have hyl := box_lt Y.out
    replace Y := Lib.hid (box_keep Y.out HBA.out)
    have hszA : (w0.drew.alloc (.cells #[.slice p0 d.1.length c0, .slice p1 keep c1] 23)).heap.size = w0.heap.size + 1 := by simp
    replace HB := Lib.hid (HB.out.tr HBA.out)
    have hT : RdIntS w0 (.slice p1 keep c1) (d.2.take keep) := by
      have h := H1.out.take keep (by omega)
      rw [Nat.mul_one] at h
      have e1 : (d.2.take keep).length = keep := by rw [List.length_take]; omega
      have e2 : d.2.take keep = d.2.take keep := by first | rfl | (rw [List.take_of_length_le (by omega), List.take_of_length_le (Nat.le_refl _)])
      rw [RdIntS, e1, e2]
      first | simpa [ints, List.map_take] using h | (rw [List.take_of_length_le (Nat.le_refl _)]; rw [List.take_of_length_le (by simp [ints])] at h; exact h)
    have HRR := Lib.hid (RdIntSS.two X2.out (H0.out.keep HBA.out) (hT.keep HBA.out))
    have hf : [d.1, d.2.take keep].flatten = d.1 ++ d.2.take keep := by simp
    clear hT X2 k0 k1 X H0 H1 HBA
    have G := Lib.hid (concatInt_any _ _ _ HRR.out (by simp [cntIntSS, cntTo]; omega))
    rw [hf] at G
    clear hf HRR
    generalize hout : d.1 ++ d.2.take keep = out at *
    have HOUT := Lib.hid hout; clear hout
    go_wp2_with fail
    refine G.out.mono ?_
    rintro e w3 ⟨v3, rfl, ho3, hb3⟩
    obtain ⟨a3, c3, rfl, -, -⟩ := ho3.rd.form
    have HO := Lib.hid ho3
    replace Y := Lib.hid (box_keep Y.out hb3)
    have hsz3 := hb3.size
    replace HB := Lib.hid (HB.out.tr hb3)
    clear ho3 hb3 G
    have f0 := box_frozen Y.out 0; have f1 := box_frozen Y.out 1
    have k0 := box_cell Y.out 0 (.slice none 0 0) rfl; have k1 := box_cell Y.out 1 (.slice none 0 0) rfl
    go_wp2_with fail
    have hK : Chg (w.heap.size + 1) (w.heap.size + 1 + 1) w3 ((w3.setCell ⟨w.heap.size + 1, 0, none⟩ (.slice a3 out.length c3)).setCell ⟨w.heap.size + 1, 1, none⟩ (.slice none 0 0)) :=
      (Chg.setCell (p := ⟨w.heap.size + 1, 0, none⟩) (by simp) (by simp) _).trans (Chg.setCell (p := ⟨w.heap.size + 1, 1, none⟩) (by simp) (by simp) _)
    have HO' := HO.out.chg hK (.inl (by omega))
    refine bodyPost_ret (v := .agg #[.slice a3 out.length c3, .slice none 0 0]) (by simp [results, Try.results75, go_sem, k0, k1]) rfl ⟨_, rfl, ⟨_, _, w3.heap.size, rfl, by omega, by simp, ?_, Ow.nil _ _ _ _ _ _⟩, hK.below HB.out (by omega)⟩
    rw [HOUT.out]
    exact HO'.mono (by omega) (Nat.le_refl _)

theorem bytesOk_lens {d : DiskD} (h : diskOk d = true) : d.1.length + d.2.length ≤ 2000 := by
  by_cases hl : d.1.length + d.2.length ≤ 2000
  · exact hl
  · have := bytesOk_len (xs := d.1 ++ d.2) (by rw [List.length_append]; omega)
    rw [diskOk, this] at h; cases h
set_option maxRecDepth 100000 in
set_option maxHeartbeats 2000000 in
theorem implDiskSync_any (w : World) (va : Value) (d : DiskD) (h : RdDisk w va d) :
    Calls Try.prog 43 #[va] w fun e w' => ∃ v, e = .returned v ∧ OwDisk w.heap.size w'.heap.size w' v (syncD d) ∧ Below w.heap.size w w' := by
  obtain ⟨v0, v1, rfl, h0, h1⟩ := h
  have hb : Below w.heap.size w ((w.alloc (.cells #[v0, v1] 25)).alloc (.cells #[.slice none 0 0, .slice none 0 0] 25)) := ((Below.refl _ _).alloc (Nat.le_refl _) _).alloc (by simp) _
  have HD : Hid (RdDisk ((w.alloc (.cells #[v0, v1] 25)).alloc (.cells #[.slice none 0 0, .slice none 0 0] 25)) (.agg #[v0, v1]) d) := Lib.hid ⟨v0, v1, rfl, h0.keep hb, h1.keep hb⟩
  have HB := Lib.hid hb
  have X := Lib.hid (box_alloc (heap_alloc_new w (.cells #[v0, v1] 25)) (.cells #[.slice none 0 0, .slice none 0 0] 25))
  have Y := Lib.hid (heap_alloc_new (w.alloc (.cells #[v0, v1] 25)) (.cells #[.slice none 0 0, .slice none 0 0] 25))
  clear hb
  obtain ⟨-, p0, c0, rfl, -, -, -⟩ := h0
  obtain ⟨-, p1, c1, rfl, -, -, -⟩ := h1
  simp only [World.size_alloc] at Y
  have C0 := implDiskValid_any _ _ d HD.out
  by_cases hok : diskOk d = true
  · have hlen := bytesOk_lens hok
    rw [hok] at C0
    replace C0 := Lib.hid C0
    have HK := Lib.hid fun wx h => kept_any wx (.agg #[.slice p0 d.1.length c0, .slice p1 d.2.length c1]) d d.2.length h (by omega) (by omega)
    rw [List.take_of_length_le (Nat.le_refl _)] at HK
    rw [syncD_yes hok]
    generalize d.1 ++ d.2 = out at *
    go_enter Try.func43, Try.ntmps43
    go_wp2_with fail
    generalize ((w.alloc (.cells #[.slice p0 d.1.length c0, .slice p1 d.2.length c1] 25)).alloc (.cells #[.slice none 0 0, .slice none 0 0] 25)) = w0 at *
    refine C0.out.mono ?_
    rintro e w1 ⟨rfl, hb1⟩
    replace X := Lib.hid (box_keep X.out hb1); replace HD := Lib.hid (HD.out.keep hb1); replace Y := Lib.hid (box_keep Y.out hb1); replace HB := Lib.hid (HB.out.tr hb1); clear hb1 C0
    have k0 := box_cell X.out 0 (.slice p0 d.1.length c0) rfl; have k1 := box_cell X.out 1 (.slice p1 d.2.length c1) rfl
    have hyl := box_lt Y.out
    go_wp2_with fail
    refine (HK.out _ HD.out).mono ?_
    rintro e w2 ⟨v, rfl, ho, hb2⟩
    replace Y := Lib.hid (box_keep Y.out hb2); replace HB := Lib.hid (HB.out.tr hb2); clear hb2 HK k0 k1 X HD
    obtain ⟨x0, x1, mid, rfl, m1, m2, y0, y1⟩ := ho
    obtain ⟨-, q0, e0, rfl, -, -, -⟩ := y0.rd
    obtain ⟨-, q1, e1, rfl, -, -, -⟩ := y1.rd
    have Y0 := Lib.hid y0; have Y1 := Lib.hid y1; clear y0 y1
    have f0 := box_frozen Y.out 0; have f1 := box_frozen Y.out 1
    have k0 := box_cell Y.out 0 (.slice none 0 0) rfl; have k1 := box_cell Y.out 1 (.slice none 0 0) rfl
    go_wp2_with fail
    have hK : Chg (w.heap.size + 1) (w.heap.size + 1 + 1) w2 ((w2.setCell ⟨w.heap.size + 1, 0, none⟩ (.slice q0 out.length e0)).setCell ⟨w.heap.size + 1, 1, none⟩ (.slice q1 0 e1)) :=
      (Chg.setCell (p := ⟨w.heap.size + 1, 0, none⟩) (by simp) (by simp) _).trans (Chg.setCell (p := ⟨w.heap.size + 1, 1, none⟩) (by simp) (by simp) _)
    have h0 := Y0.out.chg hK (.inl (by omega)); have h1 := Y1.out.chg hK (.inl (by omega))
    exact bodyPost_ret (v := .agg #[.slice q0 out.length e0, .slice q1 0 e1]) (by simp [results, Try.results43, go_sem, k0, k1]) rfl ⟨_, rfl, ⟨_, _, mid, rfl, by omega, by simp; omega, h0.mono (by omega) (Nat.le_refl _), h1.mono (Nat.le_refl _) (by simp)⟩, hK.below HB.out (by omega)⟩
  · have hok : diskOk d = false := by simpa using hok
    rw [hok] at C0
    replace C0 := Lib.hid C0
    rw [syncD_no hok]
    go_enter Try.func43, Try.ntmps43
    go_wp2_with fail
    generalize ((w.alloc (.cells #[.slice p0 d.1.length c0, .slice p1 d.2.length c1] 25)).alloc (.cells #[.slice none 0 0, .slice none 0 0] 25)) = w0 at *
    refine C0.out.mono ?_
    rintro e w1 ⟨rfl, hb1⟩
    replace Y := Lib.hid (box_keep Y.out hb1); replace HB := Lib.hid (HB.out.tr hb1); clear hb1 C0 X HD
    have f0 := box_frozen Y.out 0; have f1 := box_frozen Y.out 1
    have k0 := box_cell Y.out 0 (.slice none 0 0) rfl; have k1 := box_cell Y.out 1 (.slice none 0 0) rfl
    go_wp2_with fail
    have hK : Chg (w.heap.size + 1) (w.heap.size + 1 + 1) w1 ((w1.setCell ⟨w.heap.size + 1, 0, none⟩ (.slice none 0 0)).setCell ⟨w.heap.size + 1, 1, none⟩ (.slice none 0 0)) :=
      (Chg.setCell (p := ⟨w.heap.size + 1, 0, none⟩) (by simp) (by simp) _).trans (Chg.setCell (p := ⟨w.heap.size + 1, 1, none⟩) (by simp) (by simp) _)
    have hB := HB.out.size
    exact bodyPost_ret (v := .agg #[.slice none 0 0, .slice none 0 0]) (by simp [results, Try.results43, go_sem, k0, k1]) rfl ⟨_, rfl, ⟨_, _, w.heap.size, rfl, Nat.le_refl _, by simp; omega, Ow.nil _ _ _ _ _ _, Ow.nil _ _ _ _ _ _⟩, hK.below HB.out (by omega)⟩

theorem Below.chg {B : Nat} {w w' : World} (h : Below B w w') : Chg B w.heap.size w w' := ⟨h.os, h.tape, h.output, h.size, fun k hk hh => h.block k (by omega)⟩
theorem own_fresh (w : World) (p : Addr) (u : Value) : Hid (((w.setCell p u).alloc (.cells #[] 3)).ownsRow w.heap.size 3 1 (.slice (some ⟨w.heap.size, 0, none⟩) 0 0) 0 []) := by
  have h := World.ownsRow_made (base := (w.setCell p u).heap.size) (size := 1) (e := 3) (w.setCell p u) #[] 0 (Nat.le_refl _) (by decide) rfl
  have e : (w.setCell p u).heap.size = w.heap.size := by simp
  rw [e] at h
  exact Lib.hid h
set_option maxRecDepth 100000 in
set_option maxHeartbeats 2000000 in
theorem l1OwnDisk_any (w : World) (va : Value) (d : DiskD) (h : RdDisk w va d) (hs : sizeDisk d ≤ 1099511627776) :
    Calls Try.prog 76 #[va] w fun e w' => ∃ v, e = .returned v ∧ OwDisk w.heap.size w'.heap.size w' v d ∧ Below w.heap.size w w' := by
  obtain ⟨v0, v1, rfl, h0, h1⟩ := h
  unfold sizeDisk at *
  have H0 := Lib.hid h0; have H1 := Lib.hid h1
  obtain ⟨-, p0, c0, rfl, -, -, -⟩ := h0
  obtain ⟨-, p1, c1, rfl, -, -, -⟩ := h1
  have hb : Below w.heap.size w ((((w.alloc (.cells #[.slice p0 d.1.length c0, .slice p1 d.2.length c1] 25)).alloc (.cells #[.slice none 0 0, .slice none 0 0] 25)).alloc (.cells #[.slice p0 d.1.length c0, .slice p1 d.2.length c1] 25)).alloc (.cells #[] 3)) := by go_grown
  have O0 := World.ownsRow_made (base := (((w.alloc (.cells #[.slice p0 d.1.length c0, .slice p1 d.2.length c1] 25)).alloc (.cells #[.slice none 0 0, .slice none 0 0] 25)).alloc (.cells #[.slice p0 d.1.length c0, .slice p1 d.2.length c1] 25)).heap.size) (size := 1) (e := 3) (((w.alloc (.cells #[.slice p0 d.1.length c0, .slice p1 d.2.length c1] 25)).alloc (.cells #[.slice none 0 0, .slice none 0 0] 25)).alloc (.cells #[.slice p0 d.1.length c0, .slice p1 d.2.length c1] 25)) #[] 0 (Nat.le_refl _) (by decide) rfl
  have X1 := box_alloc (box_alloc (box_alloc (heap_alloc_new w (.cells #[.slice p0 d.1.length c0, .slice p1 d.2.length c1] 25)) (.cells #[.slice none 0 0, .slice none 0 0] 25)) (.cells #[.slice p0 d.1.length c0, .slice p1 d.2.length c1] 25)) (.cells #[] 3)
  have X2 := box_alloc (box_alloc (heap_alloc_new (w.alloc (.cells #[.slice p0 d.1.length c0, .slice p1 d.2.length c1] 25)) (.cells #[.slice none 0 0, .slice none 0 0] 25)) (.cells #[.slice p0 d.1.length c0, .slice p1 d.2.length c1] 25)) (.cells #[] 3)
  have X3 := box_alloc (heap_alloc_new ((w.alloc (.cells #[.slice p0 d.1.length c0, .slice p1 d.2.length c1] 25)).alloc (.cells #[.slice none 0 0, .slice none 0 0] 25)) (.cells #[.slice p0 d.1.length c0, .slice p1 d.2.length c1] 25)) (.cells #[] 3)
  simp only [World.size_alloc] at O0 X2 X3
  have HO0 := Lib.hid O0; have HX1 := Lib.hid X1; have HX2 := Lib.hid X2; have HX3 := Lib.hid X3; have HB := Lib.hid hb
  clear O0 X1 X2 X3 hb
  go_enter Try.func76, Try.ntmps76
  go_wp2_with (first
    | (at_builtin; refine wpList_pushAllB rfl _ _ 23 3 rfl (.int .i64 0) 1 8 Try.underlying23 infoInt rfl (by decide) (by decide) (w.heap.size + 1 + 1 + 1) _ 0 [] HO0.out rfl (.slice p0 d.1.length c0) d.1.length (ints d.1) (H0.out.keep HB.out) rfl (ints_one _) (by omega) (by omega) (by simp) ?_; intro v5 w5 hown5 hbel5 _; simp only [Nat.zero_add, List.nil_append] at hown5; obtain ⟨a5, c5, rfl, _, _⟩ := (Rd.of_own hown5).form; have HO5 := Lib.hid (Ow.of_row hown5); have HB5 := Lib.hid (HB.out.trans (hbel5.mono (by omega))); have Y1 := Lib.hid ((hbel5.block _ (by omega)).trans HX1.out); have Y2 := Lib.hid ((hbel5.block _ (by omega)).trans HX2.out); have Y3 := Lib.hid ((hbel5.block _ (by omega)).trans HX3.out); have hs5 := hbel5.size; simp only [World.size_alloc] at hs5; have Z1 := Lib.hid (box_alloc (box_other Y1.out ⟨w.heap.size + 1 + 1, 0, none⟩ (.slice a5 d.1.length c5) (by simp; omega)) (.cells #[] 3)); have Z2 := Lib.hid (box_alloc (box_other Y2.out ⟨w.heap.size + 1 + 1, 0, none⟩ (.slice a5 d.1.length c5) (by simp)) (.cells #[] 3)); have Z3 := Lib.hid (box_alloc (box_set Y3.out 0 (.slice a5 d.1.length c5)) (.cells #[] 3)); have g1 := box_cell Z1.out 1 (.slice p1 d.2.length c1) rfl; have g30 := box_cell Y3.out 0 (.slice p0 d.1.length c0) rfl; have g3 := box_frozen Y3.out 0; have O7 := own_fresh w5 ⟨w.heap.size + 1 + 1, 0, none⟩ (.slice a5 d.1.length c5); have CK := Lib.hid ((Chg.setCell (w := w5) (p := ⟨w.heap.size + 1 + 1, 0, none⟩) (lo := w.heap.size + 1 + 1) (hi := w.heap.size + 1 + 1 + 1) (by simp) (by simp) (.slice a5 d.1.length c5)).alloc (.cells #[] 3)); have HB7 := Lib.hid (CK.out.below HB5.out (by omega)); have HO7 := Lib.hid (HO5.out.chg CK.out (.inl (by omega))); clear hown5 hbel5 Y1 Y2 Y3)
    | (at_builtin; refine wpList_pushAllB rfl _ _ 23 3 rfl (.int .i64 0) 1 8 Try.underlying23 infoInt rfl (by decide) (by decide) w5.heap.size _ 0 [] O7.out rfl (.slice p1 d.2.length c1) d.2.length (ints d.2) (H1.out.keep HB7.out) rfl (ints_one _) (by omega) (by omega) (by simp) ?_; intro v8 w8 hown8 hbel8 _; simp only [Nat.zero_add, List.nil_append] at hown8; obtain ⟨a8, c8, rfl, _, _⟩ := (Rd.of_own hown8).form; have HO8 := Lib.hid (Ow.of_row hown8); have hs8 := hbel8.size; simp only [World.size_alloc] at hs8; have HO78 := Lib.hid (HO7.out.chg (Below.chg hbel8) (.inr (Nat.le_refl _))); have HB8 := Lib.hid (HB7.out.trans (hbel8.mono (by omega))); have U2 := Lib.hid ((hbel8.block _ (by omega)).trans Z2.out); have U3 := Lib.hid ((hbel8.block _ (by omega)).trans Z3.out); have q30 := box_cell U3.out 0 (.slice a5 d.1.length c5) rfl; have q31 := box_cell U3.out 1 (.slice p1 d.2.length c1) rfl; have q3 := box_frozen U3.out 1; have q20 := box_cell U2.out 0 (.slice none 0 0) rfl; have q21 := box_cell U2.out 1 (.slice none 0 0) rfl; have q2 := box_frozen U2.out 0; have q2b := box_frozen U2.out 1; clear hown8 hbel8))
  have hK : Chg (w.heap.size + 1) (w.heap.size + 1 + 1 + 1) w8 (((w8.setCell ⟨w.heap.size + 1 + 1, 1, none⟩ (.slice a8 d.2.length c8)).setCell ⟨w.heap.size + 1, 0, none⟩ (.slice a5 d.1.length c5)).setCell ⟨w.heap.size + 1, 1, none⟩ (.slice a8 d.2.length c8)) :=
    ((Chg.setCell (p := ⟨w.heap.size + 1 + 1, 1, none⟩) (by simp) (by simp) _).trans (Chg.setCell (p := ⟨w.heap.size + 1, 0, none⟩) (by simp) (by simp) _)).trans (Chg.setCell (p := ⟨w.heap.size + 1, 1, none⟩) (by simp) (by simp) _)
  have h0 := HO78.out.chg hK (.inl (by omega)); have h1 := HO8.out.chg hK (.inl (by omega))
  have hz : (w5.setCell ⟨w.heap.size + 1 + 1, 0, none⟩ (.slice a5 d.1.length c5)).heap.size = w5.heap.size := by simp
  rw [hz] at hs8
  exact bodyPost_ret (v := .agg #[.slice a5 d.1.length c5, .slice a8 d.2.length c8]) (by simp [results, Try.results76, go_sem, q20, q21]) rfl ⟨_, rfl, ⟨_, _, w5.heap.size, rfl, by omega, by simp; omega, h0.mono (by omega) (Nat.le_refl _), h1.mono (Nat.le_refl _) (by simp)⟩, hK.below HB8.out (by omega)⟩

set_option maxRecDepth 100000 in
set_option maxHeartbeats 4000000 in
theorem specDiskSync_any (w : World) (va : Value) (d : DiskD) (h : RdDisk w va d) (hs : sizeDisk d ≤ 1099511627776) :
    Calls Try.prog 54 #[va] w fun e w' => ∃ v, e = .returned v ∧ OwDisk w.heap.size w'.heap.size w' v (syncD d) ∧ Below w.heap.size w w' := by
  obtain ⟨v0, v1, rfl, h0, h1⟩ := h
  have hb : Below w.heap.size w ((w.alloc (.cells #[v0, v1] 25)).alloc (.cells #[.slice none 0 0, .slice none 0 0] 25)) := ((Below.refl _ _).alloc (Nat.le_refl _) _).alloc (by simp) _
  have HD : Hid (RdDisk ((w.alloc (.cells #[v0, v1] 25)).alloc (.cells #[.slice none 0 0, .slice none 0 0] 25)) (.agg #[v0, v1]) d) := Lib.hid ⟨v0, v1, rfl, h0.keep hb, h1.keep hb⟩
  have HB := Lib.hid hb
  have X := Lib.hid (box_alloc (heap_alloc_new w (.cells #[v0, v1] 25)) (.cells #[.slice none 0 0, .slice none 0 0] 25))
  have Y := Lib.hid (heap_alloc_new (w.alloc (.cells #[v0, v1] 25)) (.cells #[.slice none 0 0, .slice none 0 0] 25))
  clear hb
  obtain ⟨-, p0, c0, rfl, -, -, -⟩ := h0
  obtain ⟨-, p1, c1, rfl, -, -, -⟩ := h1
  simp only [World.size_alloc] at Y
  have C0 := Lib.hid (l1OwnDisk_any _ _ d HD.out hs)
  go_enter Try.func54, Try.ntmps54
  go_wp2_with fail
  generalize ((w.alloc (.cells #[.slice p0 d.1.length c0, .slice p1 d.2.length c1] 25)).alloc (.cells #[.slice none 0 0, .slice none 0 0] 25)) = w0 at *
  refine C0.out.mono ?_
  rintro e w1 ⟨v, rfl, ho, hb1⟩
  have hyl0 := box_lt Y.out
  replace X := Lib.hid (box_keep X.out hb1); replace Y := Lib.hid (box_keep Y.out hb1); replace HB := Lib.hid (HB.out.tr hb1)
  obtain ⟨x0, x1, mid, rfl, m1, m2, y0, y1⟩ := ho
  obtain ⟨-, q0, e0, rfl, -, -, -⟩ := y0.rd
  obtain ⟨-, q1, e1, rfl, -, -, -⟩ := y1.rd
  have Y0 := Lib.hid y0; have Y1 := Lib.hid y1; have hs1 := hb1.size; clear y0 y1 hb1 C0 HD
  have k0 := box_cell X.out 0 (.slice p0 d.1.length c0) rfl; have k1 := box_cell X.out 1 (.slice p1 d.2.length c1) rfl
  have f0 := box_frozen X.out 0; have f1 := box_frozen X.out 1
  have hK : Chg w.heap.size (w.heap.size + 1) w1 ((w1.setCell ⟨w.heap.size, 0, none⟩ (.slice q0 d.1.length e0)).setCell ⟨w.heap.size, 1, none⟩ (.slice q1 d.2.length e1)) :=
    (Chg.setCell (p := ⟨w.heap.size, 0, none⟩) (by simp) (by simp) _).trans (Chg.setCell (p := ⟨w.heap.size, 1, none⟩) (by simp) (by simp) _)
  replace HB := Lib.hid (hK.below HB.out (by omega))
  replace Y0 := Lib.hid (Y0.out.chg hK (.inl (by omega))); replace Y1 := Lib.hid (Y1.out.chg hK (.inl (by omega)))
  replace Y := Lib.hid (box_other (box_other Y.out ⟨w.heap.size, 0, none⟩ (.slice q0 d.1.length e0) (by simp)) ⟨w.heap.size, 1, none⟩ (.slice q1 d.2.length e1) (by simp))
  replace X := Lib.hid (box_set (box_set X.out 0 (.slice q0 d.1.length e0)) 1 (.slice q1 d.2.length e1))
  have HD : Hid (RdDisk ((w1.setCell ⟨w.heap.size, 0, none⟩ (.slice q0 d.1.length e0)).setCell ⟨w.heap.size, 1, none⟩ (.slice q1 d.2.length e1)) (.agg #[.slice q0 d.1.length e0, .slice q1 d.2.length e1]) d) := Lib.hid ⟨_, _, rfl, Y0.out.rd, Y1.out.rd⟩
  clear hK Y0 Y1
  go_wp2_with fail
  clear k0 k1 f0 f1
  generalize ((w1.setCell ⟨w.heap.size, 0, none⟩ (.slice q0 d.1.length e0)).setCell ⟨w.heap.size, 1, none⟩ (.slice q1 d.2.length e1)) = w2 at *
  have C0 := specDiskValid_any _ _ d HD.out
  by_cases hok : diskOk d = true
  · have hlen := bytesOk_lens hok
    rw [hok] at C0
    refine C0.mono ?_
    rintro e w3 ⟨rfl, hb3⟩
    replace X := Lib.hid (box_keep X.out hb3); replace HD := Lib.hid (HD.out.keep hb3); replace Y := Lib.hid (box_keep Y.out hb3); replace HB := Lib.hid (HB.out.tr hb3); clear hb3 C0
    have k0 := box_cell X.out 0 (.slice q0 d.1.length e0) rfl; have k1 := box_cell X.out 1 (.slice q1 d.2.length e1) rfl
    have hyl := box_lt Y.out
    have hl : w.heap.size < w3.heap.size := by omega
    go_wp2_with fail
    obtain ⟨z0, z1, hz, r0, r1⟩ := HD.out
    obtain ⟨rfl, rfl⟩ : .slice q0 d.1.length e0 = z0 ∧ .slice q1 d.2.length e1 = z1 := by simpa using hz
    have R0 := Lib.hid r0; have R1 := Lib.hid r1; clear r0 r1 hz HD
    have O0 := Lib.hid (World.ownsRow_made (base := w3.heap.size) (size := 1) (e := 3) w3 #[] 0 (Nat.le_refl _) (by decide) rfl)
    have BA := Lib.hid ((Below.refl w3.heap.size w3).alloc (Nat.le_refl _) (.cells #[] 3))
    go_region_held3 (fun w' => w'.cell? ⟨w.heap.size, 0, none⟩ = some (.slice q0 d.1.length e0) ∧ w'.cell? ⟨w.heap.size, 1, none⟩ = some (.slice q1 d.2.length e1)) (go_keep) (first
      | (refine step_pushAllB rfl _ _ 23 3 rfl (.int .i64 0) 1 8 Try.underlying23 infoInt rfl (by decide) (by decide) w3.heap.size _ 0 [] O0.out.drew rfl (.slice q0 d.1.length e0) d.1.length (ints d.1) (R0.out.keep BA.out.drew) rfl (ints_one _) (by omega) (by omega) (by simp) ?_; intro v' w4 hown4 hbel4 _; simp only [Nat.zero_add, List.nil_append] at hown4; have kk0 := (hbel4.cell (p := ⟨w.heap.size, 0, none⟩) hl).trans (((Below.refl w3.heap.size w3).alloc (Nat.le_refl _) (.cells #[] 3)).drew.cell (p := ⟨w.heap.size, 0, none⟩) hl |>.trans k0); have kk1 := (hbel4.cell (p := ⟨w.heap.size, 1, none⟩) hl).trans (((Below.refl w3.heap.size w3).alloc (Nat.le_refl _) (.cells #[] 3)).drew.cell (p := ⟨w.heap.size, 1, none⟩) hl |>.trans k1); have BB := Lib.hid (BA.out.drew.trans hbel4))
      | (refine step_pushAllB rfl _ _ 23 3 rfl (.int .i64 0) 1 8 Try.underlying23 infoInt rfl (by decide) (by decide) w3.heap.size _ _ _ hown4 rfl (.slice q1 d.2.length e1) d.2.length (ints d.2) (R1.out.keep BB.out) rfl (ints_one _) (by omega) (by omega) BB.out.size ?_; intro v'' w5 hown5 hbel5 _; obtain ⟨a5, c5, rfl, _, _⟩ := (Rd.of_own hown5).form; have HO5 := Lib.hid (Ow.of_row hown5); have kk2 := (hbel5.cell (p := ⟨w.heap.size, 0, none⟩) hl).trans kk0; have kk3 := (hbel5.cell (p := ⟨w.heap.size, 1, none⟩) hl).trans kk1; have BC := Lib.hid (BB.out.trans hbel5); have Y5 := Lib.hid (box_keep Y.out BC.out); have g0 := box_frozen Y5.out 0; have g1 := box_frozen Y5.out 1; have h0 := box_cell Y5.out 0 (.slice none 0 0) rfl; have h1 := box_cell Y5.out 1 (.slice none 0 0) rfl; clear kk0 kk1 hown5 hbel5))
    go_wp2_with fail
    have hK : Chg (w.heap.size + 1) (w.heap.size + 1 + 1) w5 ((w5.setCell ⟨w.heap.size + 1, 0, none⟩ (.slice a5 (d.1.length + d.2.length) c5)).setCell ⟨w.heap.size + 1, 1, none⟩ (.slice none 0 0)) :=
      (Chg.setCell (p := ⟨w.heap.size + 1, 0, none⟩) (by simp) (by simp) _).trans (Chg.setCell (p := ⟨w.heap.size + 1, 1, none⟩) (by simp) (by simp) _)
    have h2 := HO5.out.chg hK (.inl (by omega))
    have hB := HB.out.size
    have hC := BC.out.size
    refine bodyPost_ret (v := .agg #[.slice a5 (d.1.length + d.2.length) c5, .slice none 0 0]) (by simp [results, Try.results54, go_sem, h0, h1]) rfl ⟨_, rfl, ?_, hK.below (HB.out.tr BC.out) (by omega)⟩
    rw [syncD_yes hok]
    refine ⟨_, _, w5.heap.size, rfl, by omega, by simp, ?_, Ow.nil _ _ _ _ _ _⟩
    rw [OwIntS, List.length_append, ints_append]
    exact h2.mono (by omega) (Nat.le_refl _)
  · have hok : diskOk d = false := by simpa using hok
    rw [hok] at C0
    refine C0.mono ?_
    rintro e w3 ⟨rfl, hb3⟩
    replace Y := Lib.hid (box_keep Y.out hb3); replace HB := Lib.hid (HB.out.tr hb3); clear hb3 C0 X HD
    have f0 := box_frozen Y.out 0; have f1 := box_frozen Y.out 1
    have k0 := box_cell Y.out 0 (.slice none 0 0) rfl; have k1 := box_cell Y.out 1 (.slice none 0 0) rfl
    go_wp2_with fail
    have hK : Chg (w.heap.size + 1) (w.heap.size + 1 + 1) w3 ((w3.setCell ⟨w.heap.size + 1, 0, none⟩ (.slice none 0 0)).setCell ⟨w.heap.size + 1, 1, none⟩ (.slice none 0 0)) :=
      (Chg.setCell (p := ⟨w.heap.size + 1, 0, none⟩) (by simp) (by simp) _).trans (Chg.setCell (p := ⟨w.heap.size + 1, 1, none⟩) (by simp) (by simp) _)
    have hB := HB.out.size
    exact bodyPost_ret (v := .agg #[.slice none 0 0, .slice none 0 0]) (by simp [results, Try.results54, go_sem, k0, k1]) rfl ⟨_, rfl, (by rw [syncD_no hok]; exact ⟨_, _, w.heap.size, rfl, Nat.le_refl _, by simp; omega, Ow.nil _ _ _ _ _ _, Ow.nil _ _ _ _ _ _⟩), hK.below HB.out (by omega)⟩
end Go.Proofs.Ytdflpildopefaaa
