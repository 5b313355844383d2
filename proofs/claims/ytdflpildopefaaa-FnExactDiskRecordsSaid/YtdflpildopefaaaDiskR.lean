/-
  Disks: DiskRepair and DiskRecords, the program's functions and the reference's.
-/
import Derived.Test.YtdflpildopefaaaDiskS
import Derived.Test.YtdflpildopefaaaScanI
import Derived.Deep.RegionHeld3
import Derived.Test.YtdflpildopefaaaSame
namespace Go.Proofs.Ytdflpildopefaaa
open Go.RowKit
set_option linter.unusedVariables false

theorem records_cnt (xs : List Int) : (scanB xs).length ≤ xs.length := by
  by_cases h : bytesOk xs = true
  · rw [scanB_yes h]; have := scan_rng xs; omega
  · rw [scanB_no (by simpa using h)]; exact Nat.zero_le _

set_option maxRecDepth 100000 in
set_option maxHeartbeats 2000000 in
theorem implDiskRepair_any (w : World) (va : Value) (d : DiskD) (h : RdDisk w va d) :
    Calls Try.prog 48 #[va] w fun e w' => ∃ v, e = .returned v ∧ OwDisk w.heap.size w'.heap.size w' v (repairD d) ∧ Below w.heap.size w w' := by
  obtain ⟨v0, v1, rfl, h0, h1⟩ := h
  have hb : Below w.heap.size w ((w.alloc (.cells #[v0, v1] 25)).alloc (.cells #[.slice none 0 0, .slice none 0 0] 25)) := ((Below.refl _ _).alloc (Nat.le_refl _) _).alloc (by simp) _
  have HD : Hid (RdDisk ((w.alloc (.cells #[v0, v1] 25)).alloc (.cells #[.slice none 0 0, .slice none 0 0] 25)) (.agg #[v0, v1]) d) := Lib.hid ⟨v0, v1, rfl, h0.keep hb, h1.keep hb⟩
  have H0 := Lib.hid (h0.keep hb)
  have HB := Lib.hid hb
  have X := Lib.hid (box_alloc (heap_alloc_new w (.cells #[v0, v1] 25)) (.cells #[.slice none 0 0, .slice none 0 0] 25))
  have Y := Lib.hid (heap_alloc_new (w.alloc (.cells #[v0, v1] 25)) (.cells #[.slice none 0 0, .slice none 0 0] 25))
  clear hb
  obtain ⟨-, p0, c0, rfl, hc0, hm0, -⟩ := h0
  obtain ⟨-, p1, c1, rfl, -, -, -⟩ := h1
  simp only [World.size_alloc] at Y
  have C0 := implDiskValid_any _ _ d HD.out
  by_cases hok : diskOk d = true
  · have hlen := bytesOk_lens hok
    have hbl : bytesOk d.1 = true := bytesOk_left hok
    rw [hok] at C0
    replace C0 := Lib.hid C0
    have HSC := Lib.hid fun wx h => implScanFrames_any wx (.slice p0 d.1.length c0) d.1 h (by omega)
    unfold RetS at HSC
    rw [scanN_yes hbl] at HSC
    have hrng := (scan_rng d.1).1
    rw [repairD_yes hok]
    generalize (scan d.1).2 = m at *
    have HT : Hid ((d.1.take m).length = m) := Lib.hid (by rw [List.length_take]; omega)
    have HTI : Hid ((ints d.1).take (m * 1) = ints (d.1.take m)) := Lib.hid (by simp [ints])
    generalize d.1.take m = ys at *
    clear hbl hok
    go_enter Try.func48, Try.ntmps48
    go_wp2_with fail
    generalize ((w.alloc (.cells #[.slice p0 d.1.length c0, .slice p1 d.2.length c1] 25)).alloc (.cells #[.slice none 0 0, .slice none 0 0] 25)) = w0 at *
    refine C0.out.mono ?_
    rintro e w1 ⟨rfl, hb1⟩
    replace X := Lib.hid (box_keep X.out hb1); replace H0 := Lib.hid (H0.out.keep hb1); replace Y := Lib.hid (box_keep Y.out hb1); replace HB := Lib.hid (HB.out.tr hb1); clear hb1 C0 HD
    have k0 := box_cell X.out 0 (.slice p0 d.1.length c0) rfl; have k1 := box_cell X.out 1 (.slice p1 d.2.length c1) rfl
    go_wp2_with fail
    refine (HSC.out _ H0.out).mono ?_
    rintro e w2 ⟨v2, rfl, ho2, hb2⟩
    obtain ⟨a2, c2, rfl⟩ := ho2.form
    replace X := Lib.hid (box_keep X.out hb2); replace H0 := Lib.hid (H0.out.keep hb2); replace Y := Lib.hid (box_keep Y.out hb2); replace HB := Lib.hid (HB.out.tr hb2); clear ho2 hb2 HSC k0 k1
    have k0 := box_cell X.out 0 (.slice p0 d.1.length c0) rfl; have k1 := box_cell X.out 1 (.slice p1 d.2.length c1) rfl
    have CC := Lib.hid (cloneInt_any w2 (.slice p0 m c0) ys (by have h := H0.out.take m hrng; rw [HTI.out] at h; rw [HT.out]; exact h) (by rw [HT.out]; omega))
    have hmc : m ≤ c0 := by omega
    go_wp2_with fail
    refine CC.out.mono ?_
    rintro e w3 ⟨v3, rfl, ho3, hb3⟩
    obtain ⟨a3, c3, rfl, -, -⟩ := ho3.rd.form
    have HO := Lib.hid ho3
    have hyl := box_lt Y.out
    replace Y := Lib.hid (box_keep Y.out hb3)
    have hsz3 := hb3.size
    have hw2 := HB.out.size
    replace HB := Lib.hid (HB.out.tr hb3)
    clear ho3 hb3 CC X k0 k1
    have f0 := box_frozen Y.out 0; have f1 := box_frozen Y.out 1
    have k0 := box_cell Y.out 0 (.slice none 0 0) rfl; have k1 := box_cell Y.out 1 (.slice none 0 0) rfl
    rw [HT.out] at HO
    rw [HT.out]
    go_wp2_with fail
    have hK : Chg (w.heap.size + 1) (w.heap.size + 1 + 1) w3 ((w3.setCell ⟨w.heap.size + 1, 0, none⟩ (.slice a3 m c3)).setCell ⟨w.heap.size + 1, 1, none⟩ (.slice none 0 0)) :=
      (Chg.setCell (p := ⟨w.heap.size + 1, 0, none⟩) (by simp) (by simp) _).trans (Chg.setCell (p := ⟨w.heap.size + 1, 1, none⟩) (by simp) (by simp) _)
    have hf := hK.below HB.out (by omega)
    have h9 := HO.out.chg hK (.inl (by omega))
    have hz : ((w3.setCell ⟨w.heap.size + 1, 0, none⟩ (.slice a3 m c3)).setCell ⟨w.heap.size + 1, 1, none⟩ (.slice none 0 0)).heap.size = w3.heap.size := by simp
    refine bodyPost_ret (v := .agg #[.slice a3 m c3, .slice none 0 0]) (by simp [results, Try.results48, go_sem, k0, k1]) rfl ?_
    refine ⟨_, rfl, ⟨_, _, w3.heap.size, rfl, by omega, by omega, ?_, Ow.nil _ _ _ _ _ _⟩, hf⟩
    rw [OwIntS, HT.out]
    exact h9.mono (by omega) (by omega)
  · have hok : diskOk d = false := by simpa using hok
    rw [hok] at C0
    replace C0 := Lib.hid C0
    rw [repairD_no hok]
    go_enter Try.func48, Try.ntmps48
    go_wp2_with fail
    generalize ((w.alloc (.cells #[.slice p0 d.1.length c0, .slice p1 d.2.length c1] 25)).alloc (.cells #[.slice none 0 0, .slice none 0 0] 25)) = w0 at *
    refine C0.out.mono ?_
    rintro e w1 ⟨rfl, hb1⟩
    replace Y := Lib.hid (box_keep Y.out hb1); replace HB := Lib.hid (HB.out.tr hb1); clear hb1 C0 X HD
    have f0 := box_frozen Y.out 0; have f1 := box_frozen Y.out 1
    have k0 := box_cell Y.out 0 (.slice none 0 0) rfl; have k1 := box_cell Y.out 1 (.slice none 0 0) rfl
    go_wp2_with fail
    have hK : Chg (w.heap.size + 1) (w.heap.size + 1 + 1) w1 ((w1.setCell ⟨w.heap.size + 1, 0, none⟩ (.slice none 0 0)).setCell ⟨w.heap.size + 1, 1, none⟩ (.slice none 0 0)) :=
      (Chg.setCell (p := ⟨w.heap.size + 1, 0, none⟩) (by simp) (by simp) _).trans (Chg.setCell (p := ⟨w.heap.size + 1, 1, none⟩) (by simp) (by simp) _)
    have hB := HB.out.size
    exact bodyPost_ret (v := .agg #[.slice none 0 0, .slice none 0 0]) (by simp [results, Try.results48, go_sem, k0, k1]) rfl ⟨_, rfl, ⟨_, _, w.heap.size, rfl, Nat.le_refl _, by simp; omega, Ow.nil _ _ _ _ _ _, Ow.nil _ _ _ _ _ _⟩, hK.below HB.out (by omega)⟩

set_option maxRecDepth 100000 in
set_option maxHeartbeats 4000000 in
theorem specDiskRepair_any (w : World) (va : Value) (d : DiskD) (h : RdDisk w va d) (hs : sizeDisk d ≤ 1099511627776) :
    Calls Try.prog 46 #[va] w fun e w' => ∃ v, e = .returned v ∧ OwDisk w.heap.size w'.heap.size w' v (repairD d) ∧ Below w.heap.size w w' := by
  obtain ⟨v0, v1, rfl, h0, h1⟩ := h
  have hb : Below w.heap.size w ((w.alloc (.cells #[v0, v1] 25)).alloc (.cells #[.slice none 0 0, .slice none 0 0] 25)) := ((Below.refl _ _).alloc (Nat.le_refl _) _).alloc (by simp) _
  have HD : Hid (RdDisk ((w.alloc (.cells #[v0, v1] 25)).alloc (.cells #[.slice none 0 0, .slice none 0 0] 25)) (.agg #[v0, v1]) d) := Lib.hid ⟨v0, v1, rfl, h0.keep hb, h1.keep hb⟩
  have HB := Lib.hid hb
  have X := Lib.hid (box_alloc (heap_alloc_new w (.cells #[v0, v1] 25)) (.cells #[.slice none 0 0, .slice none 0 0] 25))
  have Y := Lib.hid (heap_alloc_new (w.alloc (.cells #[v0, v1] 25)) (.cells #[.slice none 0 0, .slice none 0 0] 25))
  clear hb
  obtain ⟨-, p0, c0, rfl, -, -, -⟩ := h0
  obtain ⟨-, p1, c1, rfl, -, -, -⟩ := h1
  simp only [World.size_alloc] at Y
  have C0 := Lib.hid (l1OwnDisk_any _ _ d HD.out hs)
  go_enter Try.func46, Try.ntmps46
  go_wp2_with fail
  generalize ((w.alloc (.cells #[.slice p0 d.1.length c0, .slice p1 d.2.length c1] 25)).alloc (.cells #[.slice none 0 0, .slice none 0 0] 25)) = w0 at *
  refine C0.out.mono ?_
  rintro e w1 ⟨v, rfl, ho, hb1⟩
  have hyl0 := box_lt Y.out
  replace X := Lib.hid (box_keep X.out hb1); replace Y := Lib.hid (box_keep Y.out hb1); replace HB := Lib.hid (HB.out.tr hb1)
  obtain ⟨x0, x1, mid, rfl, m1, m2, y0, y1⟩ := ho
  obtain ⟨-, q0, e0, rfl, hce0, -, -⟩ := y0.rd
  obtain ⟨-, q1, e1, rfl, -, -, -⟩ := y1.rd
  have Y0 := Lib.hid y0; have Y1 := Lib.hid y1; have hs1 := hb1.size; clear y0 y1 hb1 C0 HD
  have k0 := box_cell X.out 0 (.slice p0 d.1.length c0) rfl; have k1 := box_cell X.out 1 (.slice p1 d.2.length c1) rfl
  have f0 := box_frozen X.out 0; have f1 := box_frozen X.out 1
  have hK : Chg w.heap.size (w.heap.size + 1) w1 ((w1.setCell ⟨w.heap.size, 0, none⟩ (.slice q0 d.1.length e0)).setCell ⟨w.heap.size, 1, none⟩ (.slice q1 d.2.length e1)) :=
    (Chg.setCell (p := ⟨w.heap.size, 0, none⟩) (by simp) (by simp) _).trans (Chg.setCell (p := ⟨w.heap.size, 1, none⟩) (by simp) (by simp) _)
  replace HB := Lib.hid (hK.below HB.out (by omega))
  replace Y0 := Lib.hid (Y0.out.chg hK (.inl (by omega))); replace Y1 := Lib.hid (Y1.out.chg hK (.inl (by omega)))
  replace Y := Lib.hid (box_other (box_other Y.out ⟨w.heap.size, 0, none⟩ (.slice q0 d.1.length e0) (by simp)) ⟨w.heap.size, 1, none⟩ (.slice q1 d.2.length e1) (by simp))
  replace X := Lib.hid (box_set (box_set X.out 0 (.slice q0 d.1.length e0)) 1 (.slice q1 d.2.length e1))
  have HD : Hid (RdDisk ((w1.setCell ⟨w.heap.size, 0, none⟩ (.slice q0 d.1.length e0)).setCell ⟨w.heap.size, 1, none⟩ (.slice q1 d.2.length e1)) (.agg #[.slice q0 d.1.length e0, .slice q1 d.2.length e1]) d) := Lib.hid ⟨_, _, rfl, Y0.out.rd, Y1.out.rd⟩
  have R0 := Lib.hid Y0.out.rd
  clear hK Y0 Y1
  go_wp2_with fail
  clear k0 k1 f0 f1
  generalize ((w1.setCell ⟨w.heap.size, 0, none⟩ (.slice q0 d.1.length e0)).setCell ⟨w.heap.size, 1, none⟩ (.slice q1 d.2.length e1)) = w2 at *
  have C0 := specDiskValid_any _ _ d HD.out
  by_cases hok : diskOk d = true
  · have hlen := bytesOk_lens hok
    have hbl : bytesOk d.1 = true := bytesOk_left hok
    rw [hok] at C0
    have HSC := Lib.hid fun wx h => specScanFrames_any wx (.slice q0 d.1.length e0) d.1 h (by omega)
    unfold RetS at HSC
    rw [scanN_yes hbl] at HSC
    have hrng := (scan_rng d.1).1
    have HREP := Lib.hid (repairD_yes hok)
    generalize (scan d.1).2 = m at *
    have HT : Hid ((d.1.take m).length = m) := Lib.hid (by rw [List.length_take]; omega)
    have HTI : Hid ((ints d.1).take (m * 1) = ints (d.1.take m)) := Lib.hid (by simp [ints])
    generalize d.1.take m = ys at *
    clear hbl hok
    refine C0.mono ?_
    rintro e w3 ⟨rfl, hb3⟩
    replace X := Lib.hid (box_keep X.out hb3); replace R0 := Lib.hid (R0.out.keep hb3); replace Y := Lib.hid (box_keep Y.out hb3); replace HB := Lib.hid (HB.out.tr hb3); clear hb3 C0 HD
    have k0 := box_cell X.out 0 (.slice q0 d.1.length e0) rfl; have k1 := box_cell X.out 1 (.slice q1 d.2.length e1) rfl
    go_wp2_with fail
    refine (HSC.out _ R0.out).mono ?_
    rintro e w4 ⟨v4, rfl, ho4, hb4⟩
    obtain ⟨a4, c4, rfl⟩ := ho4.form
    replace X := Lib.hid (box_keep X.out hb4); replace R0 := Lib.hid (R0.out.keep hb4); replace Y := Lib.hid (box_keep Y.out hb4); replace HB := Lib.hid (HB.out.tr hb4); clear ho4 hb4 HSC k0 k1
    have k0 := box_cell (box_alloc X.out (.cells #[] 3)) 0 (.slice q0 d.1.length e0) rfl; have k1 := box_cell (box_alloc X.out (.cells #[] 3)) 1 (.slice q1 d.2.length e1) rfl
    have hmc : m ≤ e0 := by omega
    have hxl := box_lt X.out
    have hyl := box_lt Y.out
    have hw4 := HB.out.size
    have HRT : Hid (Rd w4 1 (.slice q0 m e0) m (ints ys)) := Lib.hid (by have h := R0.out.take m hrng; rw [HTI.out] at h; exact h)
    go_wp2_with (at_builtin; refine wpList_pushAllB rfl _ _ 23 3 rfl (.int .i64 0) 1 8 Try.underlying23 infoInt rfl (by decide) (by decide) w4.heap.size _ 0 [] (World.ownsRow_made (size := 1) w4 #[] 0 (Nat.le_refl _) (by decide) rfl) rfl (.slice q0 m e0) m (ints ys) (HRT.out.keep ((Below.refl _ _).alloc (Nat.le_refl _) _)) rfl (ints_one ys) (by omega) (by omega) (by simp) ?_; intro v5 w5 hown5 hbel5 hne5; obtain ⟨a5, c5, rfl, -, -⟩ := (Rd.of_own hown5).form; have HO := Lib.hid hown5; have HBA := Lib.hid (((Below.refl w4.heap.size w4).alloc (Nat.le_refl _) (.cells #[] 3)).trans hbel5); have hw5 := HBA.out.size; replace Y := Lib.hid (box_keep Y.out HBA.out); replace HB := Lib.hid (HB.out.tr HBA.out); clear hown5 hbel5 hne5 k0 k1; have f0 := box_frozen Y.out 0; have f1 := box_frozen Y.out 1; have k0 := box_cell Y.out 0 (.slice none 0 0) rfl; have k1 := box_cell Y.out 1 (.slice none 0 0) rfl)
    have hK : Chg (w.heap.size + 1) (w.heap.size + 1 + 1) w5 ((w5.setCell ⟨w.heap.size + 1, 0, none⟩ (.slice a5 (0 + m) c5)).setCell ⟨w.heap.size + 1, 1, none⟩ (.slice none 0 0)) :=
      (Chg.setCell (p := ⟨w.heap.size + 1, 0, none⟩) (by simp) (by simp) _).trans (Chg.setCell (p := ⟨w.heap.size + 1, 1, none⟩) (by simp) (by simp) _)
    have hf := hK.below HB.out (by omega)
    have h9 := (Ow.of_row HO.out).chg hK (.inl (by omega))
    have hz : ((w5.setCell ⟨w.heap.size + 1, 0, none⟩ (.slice a5 (0 + m) c5)).setCell ⟨w.heap.size + 1, 1, none⟩ (.slice none 0 0)).heap.size = w5.heap.size := by simp
    simp only [Nat.zero_add, List.nil_append] at h9 hz hf hK
    refine bodyPost_ret (v := .agg #[.slice a5 m c5, .slice none 0 0]) (by simp [results, Try.results46, go_sem, k0, k1]) rfl ?_
    refine ⟨_, rfl, ?_, hf⟩
    rw [HREP.out]
    refine ⟨_, _, w5.heap.size, rfl, by omega, by omega, ?_, Ow.nil _ _ _ _ _ _⟩
    rw [OwIntS, HT.out]
    exact h9.mono (by omega) (by omega)
  · have hok : diskOk d = false := by simpa using hok
    rw [hok] at C0
    refine C0.mono ?_
    rintro e w3 ⟨rfl, hb3⟩
    replace Y := Lib.hid (box_keep Y.out hb3); replace HB := Lib.hid (HB.out.tr hb3); clear hb3 C0 X HD
    have f0 := box_frozen Y.out 0; have f1 := box_frozen Y.out 1
    have k0 := box_cell Y.out 0 (.slice none 0 0) rfl; have k1 := box_cell Y.out 1 (.slice none 0 0) rfl
    go_wp2_with fail
    have hK : Chg (w.heap.size + 1) (w.heap.size + 1 + 1) w3 ((w3.setCell ⟨w.heap.size + 1, 0, none⟩ (.slice none 0 0)).setCell ⟨w.heap.size + 1, 1, none⟩ (.slice none 0 0)) :=
      (Chg.setCell (p := ⟨w.heap.size + 1, 0, none⟩) (by simp) (by simp) _).trans (Chg.setCell (p := ⟨w.heap.size + 1, 1, none⟩) (by simp) (by simp) _)
    have hB := HB.out.size
    exact bodyPost_ret (v := .agg #[.slice none 0 0, .slice none 0 0]) (by simp [results, Try.results46, go_sem, k0, k1]) rfl ⟨_, rfl, (by rw [repairD_no hok]; exact ⟨_, _, w.heap.size, rfl, Nat.le_refl _, by simp; omega, Ow.nil _ _ _ _ _ _, Ow.nil _ _ _ _ _ _⟩), hK.below HB.out (by omega)⟩

set_option maxRecDepth 100000 in
set_option maxHeartbeats 2000000 in
theorem diskBytes_any (w : World) (va : Value) (d : DiskD) (h : RdDisk w va d) (hs : d.1.length + d.2.length ≤ 1099511627776) :
    Calls Try.prog 77 #[va] w (RetI w (d.1 ++ d.2)) := by
  obtain ⟨v0, v1, rfl, h0, h1⟩ := h
  have hb : Below w.heap.size w ((w.alloc (.cells #[v0, v1] 25)).alloc (.cells #[v0, v1] 23)) := ((Below.refl _ _).alloc (Nat.le_refl _) _).alloc (by simp) _
  have HB := Lib.hid hb
  have X := heap_alloc_new (w.alloc (.cells #[v0, v1] 25)) (.cells #[v0, v1] 23)
  simp only [World.size_alloc] at X
  have G := concatInt_any _ _ _ (RdIntSS.two X (h0.keep hb) (h1.keep hb)) (by simp [cntIntSS, cntTo]; omega)
  rw [show [d.1, d.2].flatten = d.1 ++ d.2 from by simp] at G
  obtain ⟨-, p0, c0, rfl, -, -, -⟩ := h0
  obtain ⟨-, p1, c1, rfl, -, -, -⟩ := h1
  replace G := Lib.hid G
  clear X hb
  generalize d.1 ++ d.2 = out at *
  go_enter Try.func77, Try.ntmps77
  go_wp2_with fail
  refine G.out.mono ?_
  rintro e w3 ⟨v3, rfl, ho3, hb3⟩
  obtain ⟨a3, c3, rfl, -, -⟩ := ho3.rd.form
  have HO := Lib.hid ho3
  have hs2 := HB.out.size
  replace HB := Lib.hid (HB.out.tr hb3)
  clear ho3 hb3 G
  go_wp2_with fail
  go_ret
  exact ⟨_, rfl, HO.out.mono (by omega) (Nat.le_refl _), HB.out⟩

/-- Records are handed back in new memory. -/
def RetR (w : World) (xss : List (List Int)) (e : Ending) (w' : World) : Prop := ∃ v, e = .returned v ∧ OwIntSS w.heap.size w'.heap.size w' v xss ∧ Below w.heap.size w w'
theorem recordsD_scan {d : DiskD} (h : diskOk d = true) : recordsD d = scanB (d.1 ++ d.2) := by rw [recordsD_yes h, scanB_yes h]

set_option maxRecDepth 100000 in
set_option maxHeartbeats 2000000 in
theorem implDiskRecords_any (w : World) (va : Value) (d : DiskD) (h : RdDisk w va d) :
    Calls Try.prog 55 #[va] w (RetR w (recordsD d)) := by
  obtain ⟨v0, v1, rfl, h0, h1⟩ := h
  have hb : Below w.heap.size w (w.alloc (.cells #[v0, v1] 25)) := (Below.refl _ _).alloc (Nat.le_refl _) _
  have HD : Hid (RdDisk (w.alloc (.cells #[v0, v1] 25)) (.agg #[v0, v1]) d) := Lib.hid ⟨v0, v1, rfl, h0.keep hb, h1.keep hb⟩
  have HB := Lib.hid hb
  have X := Lib.hid (heap_alloc_new w (.cells #[v0, v1] 25))
  clear hb
  obtain ⟨-, p0, c0, rfl, -, -, -⟩ := h0
  obtain ⟨-, p1, c1, rfl, -, -, -⟩ := h1
  have C0 := implDiskValid_any _ _ d HD.out
  by_cases hok : diskOk d = true
  · have hlen := bytesOk_lens hok
    rw [hok] at C0
    replace C0 := Lib.hid C0
    have HBY := Lib.hid fun wx h => diskBytes_any wx (.agg #[.slice p0 d.1.length c0, .slice p1 d.2.length c1]) d h (by omega)
    have HSC := Lib.hid fun wx vx h => implScanFrames_any wx vx (d.1 ++ d.2) h (by rw [List.length_append]; omega)
    unfold RetS at HSC
    rw [recordsD_scan hok]
    clear hok
    generalize scanB (d.1 ++ d.2) = rs at *
    generalize scanN (d.1 ++ d.2) = rn at *
    generalize d.1 ++ d.2 = out at *
    go_enter Try.func55, Try.ntmps55
    go_wp2_with fail
    generalize (w.alloc (.cells #[.slice p0 d.1.length c0, .slice p1 d.2.length c1] 25)) = w0 at *
    refine C0.out.mono ?_
    rintro e w1 ⟨rfl, hb1⟩
    replace X := Lib.hid (box_keep X.out hb1); replace HD := Lib.hid (HD.out.keep hb1); replace HB := Lib.hid (HB.out.tr hb1); clear hb1 C0
    have k0 := box_cell X.out 0 (.slice p0 d.1.length c0) rfl; have k1 := box_cell X.out 1 (.slice p1 d.2.length c1) rfl
    go_wp2_with fail
    refine (HBY.out _ HD.out).mono ?_
    rintro e w2 ⟨v2, rfl, ho2, hb2⟩
    obtain ⟨a2, c2, rfl, -, -⟩ := ho2.rd.form
    have HO := Lib.hid ho2.rd
    replace HB := Lib.hid (HB.out.tr hb2); clear ho2 hb2 HBY k0 k1 X HD
    go_wp2_with fail
    refine (HSC.out _ _ HO.out).mono ?_
    rintro e w3 ⟨v3, rfl, ho3, hb3⟩
    have hs2 := HB.out.size
    have HO3 := Lib.hid (ho3.mono hs2 (Nat.le_refl _))
    obtain ⟨a3, c3, rfl⟩ := ho3.form
    replace HB := Lib.hid (HB.out.tr hb3); clear ho3 hb3 HSC
    go_wp2_with fail
    go_ret
    exact ⟨_, rfl, HO3.out, HB.out⟩
  · have hok : diskOk d = false := by simpa using hok
    rw [hok] at C0
    replace C0 := Lib.hid C0
    rw [recordsD_no hok]
    clear hok
    go_enter Try.func55, Try.ntmps55
    go_wp2_with fail
    generalize (w.alloc (.cells #[.slice p0 d.1.length c0, .slice p1 d.2.length c1] 25)) = w0 at *
    refine C0.out.mono ?_
    rintro e w1 ⟨rfl, hb1⟩
    replace HB := Lib.hid (HB.out.tr hb1); clear hb1 C0 X HD
    go_wp2_with fail
    go_ret
    exact ⟨_, rfl, OwIntSS.nil _ _ _, HB.out⟩

set_option maxRecDepth 100000 in
set_option maxHeartbeats 4000000 in
theorem specDiskRecords_any (w : World) (va : Value) (d : DiskD) (h : RdDisk w va d) (hs : sizeDisk d ≤ 1099511627776) :
    Calls Try.prog 56 #[va] w (RetR w (recordsD d)) := by
  obtain ⟨v0, v1, rfl, h0, h1⟩ := h
  have hb : Below w.heap.size w (w.alloc (.cells #[v0, v1] 25)) := (Below.refl _ _).alloc (Nat.le_refl _) _
  have HD : Hid (RdDisk (w.alloc (.cells #[v0, v1] 25)) (.agg #[v0, v1]) d) := Lib.hid ⟨v0, v1, rfl, h0.keep hb, h1.keep hb⟩
  have HB := Lib.hid hb
  have X := Lib.hid (heap_alloc_new w (.cells #[v0, v1] 25))
  have hs0 : (w.alloc (.cells #[v0, v1] 25)).heap.size = w.heap.size + 1 := by simp
  clear hb
  obtain ⟨-, p0, c0, rfl, -, -, -⟩ := h0
  obtain ⟨-, p1, c1, rfl, -, -, -⟩ := h1
  have C0 := Lib.hid (l1OwnDisk_any _ _ d HD.out hs)
  go_enter Try.func56, Try.ntmps56
  go_wp2_with fail
  generalize (w.alloc (.cells #[.slice p0 d.1.length c0, .slice p1 d.2.length c1] 25)) = w0 at *
  refine C0.out.mono ?_
  rintro e w1 ⟨v, rfl, ho, hb1⟩
  replace X := Lib.hid (box_keep X.out hb1); replace HB := Lib.hid (HB.out.tr hb1)
  obtain ⟨x0, x1, mid, rfl, m1, m2, y0, y1⟩ := ho
  obtain ⟨-, q0, e0, rfl, hce0, -, -⟩ := y0.rd
  obtain ⟨-, q1, e1, rfl, -, -, -⟩ := y1.rd
  have Y0 := Lib.hid y0; have Y1 := Lib.hid y1; have hs1 := hb1.size; clear y0 y1 hb1 C0 HD
  have k0 := box_cell X.out 0 (.slice p0 d.1.length c0) rfl; have k1 := box_cell X.out 1 (.slice p1 d.2.length c1) rfl
  have f0 := box_frozen X.out 0; have f1 := box_frozen X.out 1
  have hK : Chg w.heap.size (w.heap.size + 1) w1 ((w1.setCell ⟨w.heap.size, 0, none⟩ (.slice q0 d.1.length e0)).setCell ⟨w.heap.size, 1, none⟩ (.slice q1 d.2.length e1)) :=
    (Chg.setCell (p := ⟨w.heap.size, 0, none⟩) (by simp) (by simp) _).trans (Chg.setCell (p := ⟨w.heap.size, 1, none⟩) (by simp) (by simp) _)
  replace HB := Lib.hid (hK.below HB.out (by omega))
  replace Y0 := Lib.hid (Y0.out.chg hK (.inl (by omega))); replace Y1 := Lib.hid (Y1.out.chg hK (.inl (by omega)))
  replace X := Lib.hid (box_set (box_set X.out 0 (.slice q0 d.1.length e0)) 1 (.slice q1 d.2.length e1))
  have HD : Hid (RdDisk ((w1.setCell ⟨w.heap.size, 0, none⟩ (.slice q0 d.1.length e0)).setCell ⟨w.heap.size, 1, none⟩ (.slice q1 d.2.length e1)) (.agg #[.slice q0 d.1.length e0, .slice q1 d.2.length e1]) d) := Lib.hid ⟨_, _, rfl, Y0.out.rd, Y1.out.rd⟩
  have R0 := Lib.hid Y0.out.rd; have R1 := Lib.hid Y1.out.rd
  clear hK Y0 Y1
  go_wp2_with fail
  clear k0 k1 f0 f1
  generalize ((w1.setCell ⟨w.heap.size, 0, none⟩ (.slice q0 d.1.length e0)).setCell ⟨w.heap.size, 1, none⟩ (.slice q1 d.2.length e1)) = w2 at *
  have C0 := specDiskValid_any _ _ d HD.out
  by_cases hok : diskOk d = true
  · have hlen := bytesOk_lens hok
    rw [hok] at C0
    have HSC := Lib.hid fun wx vx h => specScanFrames_any wx vx (d.1 ++ d.2) h (by rw [List.length_append]; omega)
    unfold RetS at HSC
    have HREP := Lib.hid (recordsD_scan hok)
    have HAL : Hid ((d.1 ++ d.2).length = d.1.length + d.2.length) := Lib.hid (by simp)
    have HAI : Hid (ints (d.1 ++ d.2) = ints d.1 ++ ints d.2) := Lib.hid (ints_append _ _)
    clear hok
    generalize scanB (d.1 ++ d.2) = rs at *
    generalize scanN (d.1 ++ d.2) = rn at *
    generalize d.1 ++ d.2 = out at *
    refine C0.mono ?_
    rintro e w3 ⟨rfl, hb3⟩
    replace X := Lib.hid (box_keep X.out hb3); replace R0 := Lib.hid (R0.out.keep hb3); replace R1 := Lib.hid (R1.out.keep hb3); replace HB := Lib.hid (HB.out.tr hb3); clear hb3 C0 HD
    have k0 := box_cell X.out 0 (.slice q0 d.1.length e0) rfl; have k1 := box_cell X.out 1 (.slice q1 d.2.length e1) rfl
    have hl := box_lt X.out
    have hw3 := HB.out.size
    go_wp2_with fail
    have O0 := Lib.hid (World.ownsRow_made (base := w3.heap.size) (size := 1) (e := 3) w3 #[] 0 (Nat.le_refl _) (by decide) rfl)
    have BA := Lib.hid ((Below.refl w3.heap.size w3).alloc (Nat.le_refl _) (.cells #[] 3))
    go_region_held3 (fun w' => w'.cell? ⟨w.heap.size, 0, none⟩ = some (.slice q0 d.1.length e0) ∧ w'.cell? ⟨w.heap.size, 1, none⟩ = some (.slice q1 d.2.length e1)) (go_keep) (first
      | (refine step_pushAllB rfl _ _ 23 3 rfl (.int .i64 0) 1 8 Try.underlying23 infoInt rfl (by decide) (by decide) w3.heap.size _ 0 [] O0.out.drew rfl (.slice q0 d.1.length e0) d.1.length (ints d.1) (R0.out.keep BA.out.drew) rfl (ints_one _) (by omega) (by omega) (by simp) ?_; intro v' w4 hown4 hbel4 _; simp only [Nat.zero_add, List.nil_append] at hown4; have kk0 := (hbel4.cell (p := ⟨w.heap.size, 0, none⟩) hl).trans (((Below.refl w3.heap.size w3).alloc (Nat.le_refl _) (.cells #[] 3)).drew.cell (p := ⟨w.heap.size, 0, none⟩) hl |>.trans k0); have kk1 := (hbel4.cell (p := ⟨w.heap.size, 1, none⟩) hl).trans (((Below.refl w3.heap.size w3).alloc (Nat.le_refl _) (.cells #[] 3)).drew.cell (p := ⟨w.heap.size, 1, none⟩) hl |>.trans k1); have BB := Lib.hid (BA.out.drew.trans hbel4))
      | (refine step_pushAllB rfl _ _ 23 3 rfl (.int .i64 0) 1 8 Try.underlying23 infoInt rfl (by decide) (by decide) w3.heap.size _ _ _ hown4 rfl (.slice q1 d.2.length e1) d.2.length (ints d.2) (R1.out.keep BB.out) rfl (ints_one _) (by omega) (by omega) BB.out.size ?_; intro v'' w5 hown5 hbel5 _; obtain ⟨a5, c5, rfl, _, _⟩ := (Rd.of_own hown5).form; have HR5 := Lib.hid (Rd.of_own hown5); have kk2 := (hbel5.cell (p := ⟨w.heap.size, 0, none⟩) hl).trans kk0; have kk3 := (hbel5.cell (p := ⟨w.heap.size, 1, none⟩) hl).trans kk1; have BC := Lib.hid (BB.out.trans hbel5); clear kk0 kk1 hown5 hbel5)
      | (go_at_call 31; refine (HSC.out _ _ (by rw [HAL.out, HAI.out]; exact HR5.out)).mono ?_; rintro e w6 ⟨v6, rfl, ho6, hb6⟩; obtain ⟨a6, c6, rfl⟩ := ho6.form; have HO6 := Lib.hid ho6; have BD := Lib.hid (BC.out.tr hb6); have kk4 := (hb6.cell (p := ⟨w.heap.size, 0, none⟩) (World.block_lt_of_cell? _ _ kk2)).trans kk2; have kk5 := (hb6.cell (p := ⟨w.heap.size, 1, none⟩) (World.block_lt_of_cell? _ _ kk3)).trans kk3; have hz6 := BC.out.size; clear kk2 kk3 ho6 hb6))
    go_wp2_with fail
    go_ret
    refine ⟨_, rfl, ?_, HB.out.tr BD.out⟩
    rw [HREP.out]
    exact HO6.out.mono (by omega) (Nat.le_refl _)
  · have hok : diskOk d = false := by simpa using hok
    rw [hok] at C0
    have HREP := Lib.hid (recordsD_no hok)
    clear hok
    refine C0.mono ?_
    rintro e w3 ⟨rfl, hb3⟩
    replace HB := Lib.hid (HB.out.tr hb3); clear hb3 C0 X HD
    have hw3 := HB.out.size
    go_wp2_with fail
    go_ret
    refine ⟨_, rfl, ?_, HB.out.alloc hw3 _⟩
    rw [HREP.out]
    exact (OwIntSS.empty (lo := w.heap.size) (hi := (w3.alloc (.cells #[] 23)).heap.size) (by omega) (by simp))

set_option maxRecDepth 100000 in
set_option maxHeartbeats 1000000 in
theorem sameDisk_same (w : World) (va vb : Value) (d : DiskD) (ha : RdDisk w va d) (hb : RdDisk w vb d) :
    Calls Try.prog 41 #[va, vb] w fun e w' => e = .returned (.bool true) ∧ Below w.heap.size w w' := by
  obtain ⟨a0, a1, rfl, h0, h1⟩ := ha
  obtain ⟨b0, b1, rfl, g0, g1⟩ := hb
  have hbl : Below w.heap.size w ((w.alloc (.cells #[a0, a1] 25)).alloc (.cells #[b0, b1] 25)) := ((Below.refl _ _).alloc (Nat.le_refl _) _).alloc (by simp) _
  have HB := Lib.hid hbl
  have H0 := Lib.hid (h0.keep hbl); have H1 := Lib.hid (h1.keep hbl); have G0 := Lib.hid (g0.keep hbl); have G1 := Lib.hid (g1.keep hbl)
  have X := Lib.hid (box_alloc (heap_alloc_new w (.cells #[a0, a1] 25)) (.cells #[b0, b1] 25))
  have Y := heap_alloc_new (w.alloc (.cells #[a0, a1] 25)) (.cells #[b0, b1] 25)
  simp only [World.size_alloc] at Y
  replace Y := Lib.hid Y
  obtain ⟨-, p0, c0, rfl, -, -, -⟩ := h0
  obtain ⟨-, p1, c1, rfl, -, -, -⟩ := h1
  obtain ⟨-, q0, e0, rfl, -, -, -⟩ := g0
  obtain ⟨-, q1, e1, rfl, -, -, -⟩ := g1
  have k0 := box_cell X.out 0 _ rfl; have k1 := box_cell X.out 1 _ rfl; have l0 := box_cell Y.out 0 _ rfl; have l1 := box_cell Y.out 1 _ rfl
  clear hbl
  go_enter Try.func41, Try.ntmps41
  go_wp2_with fail
  generalize ((w.alloc (.cells #[.slice p0 d.1.length c0, .slice p1 d.2.length c1] 25)).alloc (.cells #[.slice q0 d.1.length e0, .slice q1 d.2.length e1] 25)) = w0 at *
  refine (sameInts_same _ _ _ d.1 H0.out G0.out).mono ?_
  rintro e w1 ⟨rfl, hb1⟩
  clear k0 k1 l0 l1
  replace X := Lib.hid (box_keep X.out hb1); replace Y := Lib.hid (box_keep Y.out hb1); replace HB := Lib.hid (HB.out.tr hb1); replace H1 := Lib.hid (H1.out.keep hb1); replace G1 := Lib.hid (G1.out.keep hb1); clear hb1 H0 G0
  have k1 := box_cell X.out 1 _ rfl; have l1 := box_cell Y.out 1 _ rfl
  go_wp2_with fail
  refine (sameInts_same _ _ _ d.2 H1.out G1.out).mono ?_
  rintro e w2 ⟨rfl, hb2⟩
  replace HB := Lib.hid (HB.out.tr hb2); clear hb2 k1 l1
  go_wp2_with fail
  go_ret
  exact ⟨rfl, HB.out⟩
end Go.Proofs.Ytdflpildopefaaa
