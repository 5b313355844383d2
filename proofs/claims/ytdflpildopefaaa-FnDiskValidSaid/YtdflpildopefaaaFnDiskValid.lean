/-
  A disk that is valid is valid without the rest; a negative byte makes it not valid: for every code: no condition.
-/
import Derived.Test.YtdflpildopefaaaArgs
import Derived.Test.YtdflpildopefaaaDrawL
import Derived.Test.YtdflpildopefaaaApp
import Derived.Test.YtdflpildopefaaaRelX
import Derived.Test.YtdflpildopefaaaDiskR
import Derived.Test.YtdflpildopefaaaRowS
import Derived.Test.YtdflpildopefaaaFacts
namespace Go.Proofs.Ytdflpildopefaaa
open Go.ChangeShapes Go.WideShapes Go.ChangeAt Go.RowKit
set_option linter.unusedVariables false

theorem RdDisk.one {w : World} {v0 v1 : Value} {d : DiskD} (h : RdDisk w (.agg #[v0, v1]) d) : Rd w 1 v0 d.1.length (ints d.1) := by
  obtain ⟨u0, u1, e, h0, h1⟩ := h
  obtain ⟨rfl, rfl⟩ : v0 = u0 ∧ v1 = u1 := by simpa using e
  exact h0
theorem RdDisk.safe {w : World} {v0 v1 : Value} {d : DiskD} (h : RdDisk w (.agg #[v0, v1]) d) : RdDisk w (.agg #[v0, .slice none 0 0]) (d.1, []) :=
  ⟨_, _, rfl, h.one, Rd.nil w 1⟩
theorem RdDisk.two {w : World} {v0 v1 : Value} {d : DiskD} (h : RdDisk w (.agg #[v0, v1]) d) : Rd w 1 v1 d.2.length (ints d.2) := by
  obtain ⟨u0, u1, e, h0, h1⟩ := h
  obtain ⟨rfl, rfl⟩ : v0 = u0 ∧ v1 = u1 := by simpa using e
  exact h1
theorem diskOk_neg (d : DiskD) : diskOk (d.1, d.2 ++ [-1]) = false := by
  rw [Bool.eq_false_iff]; intro h
  rw [diskOk_def] at h
  simp only [bytesOk, Bool.and_eq_true, List.all_eq_true] at h
  have := h.2 (-1) (by simp)
  simp [byteB] at this
theorem lit1 {w : World} {b : Nat} (h : w.heap[b]? = some (.cells #[.int .i64 (-1)] 3 (0, 0))) : Rd w 1 (.slice (some ⟨b, 0, none⟩) 1 1) 1 (ints [-1]) := by
  refine ⟨rfl, _, 1, rfl, Nat.le_refl _, by decide, .inr ⟨b, 0, rfl, fun i hi => ?_⟩⟩
  obtain rfl : i = 0 := by simp [ints] at hi; omega
  rw [cell_of_row w b (0 + 0) _ _ _ h]; rfl
/-- What holds while the negative byte is laid behind the rest. -/
structure VG (B : World) (d : DiskD) (u0 : Value) (n : Nat) (L : Nat → Bool) (x : Nat → Value) (w : World) : Prop where
  b : Below B.heap.size B w
  a1 : L 14 = true → L 16 = false → Ow B.heap.size w.heap.size w 3 1 (x 30) d.2.length (ints d.2)
  lit : L 15 = true → L 16 = false → Rd w 1 (x 31) 1 (ints [-1])
  a2 : L 16 = true → Ow B.heap.size w.heap.size w 3 1 (x 32) (d.2.length + 1) (ints (d.2 ++ [-1]))
  bld : L 17 = true → x 33 = .agg #[u0, x 32]
  o1 : L 16 = true → L 14 = true ∧ L 15 = true
  o2 : L 17 = true → L 16 = true
theorem VG.keep {B : World} {d : DiskD} {u0 : Value} {n : Nat} {L : Nat → Bool} {x : Nat → Value} {w w' : World} (h : VG B d u0 n L x w) {i k : Nat} (v : Value) (hi : i ≠ 14 ∧ i ≠ 15 ∧ i ≠ 16 ∧ i ≠ 17) (hk : k ≠ 30 ∧ k ≠ 31 ∧ k ≠ 32 ∧ k ≠ 33) (hb : Below w.heap.size w w') : VG B d u0 (n + 1) (setL L i) (updO (some k) x v) w' := by
  obtain ⟨i1, i2, i3, i4⟩ := hi
  obtain ⟨k1, k2, k3, k4⟩ := hk
  have e : ∀ j, j ≠ i → setL L i j = L j := fun j hj => by simp [setL, hj]
  have f : ∀ j, j ≠ k → updO (some k) x v j = x j := fun j hj => by simp [updO, upd, hj]
  have hs := hb.size
  refine ⟨h.b.tr hb, fun h1 h2 => ?_, fun h1 h2 => ?_, fun h1 => ?_, fun h1 => ?_, fun h1 => ?_, fun h1 => ?_⟩
  · rw [e 14 (Ne.symm i1)] at h1; rw [e 16 (Ne.symm i3)] at h2; rw [f 30 (Ne.symm k1)]; exact ((h.a1 h1 h2).keep hb).mono (Nat.le_refl _) hs
  · rw [e 15 (Ne.symm i2)] at h1; rw [e 16 (Ne.symm i3)] at h2; rw [f 31 (Ne.symm k2)]; exact (h.lit h1 h2).keep hb
  · rw [e 16 (Ne.symm i3)] at h1; rw [f 32 (Ne.symm k3)]; exact ((h.a2 h1).keep hb).mono (Nat.le_refl _) hs
  · rw [e 17 (Ne.symm i4)] at h1; rw [f 33 (Ne.symm k4), f 32 (Ne.symm k3)]; exact h.bld h1
  · rw [e 16 (Ne.symm i3)] at h1; rw [e 14 (Ne.symm i1), e 15 (Ne.symm i2)]; exact h.o1 h1
  · rw [e 17 (Ne.symm i4)] at h1; rw [e 16 (Ne.symm i3)]; exact h.o2 h1

set_option maxRecDepth 100000 in
set_option maxHeartbeats 4000000 in
theorem FnDiskValid_walk (w : World) (va : Value) (bs : List Int) (hv : Rd w 1 va bs.length (bys bs)) (hx : ∀ x ∈ bs, 0 ≤ x ∧ x ≤ 255) :
    Calls Try.prog 3 #[va] w fun e w' => e = .returned (.bool true) ∧ Below w.heap.size w w' := by
  have HDR := Lib.hid (DrawDiskValid_any w va bs hv hx)
  obtain ⟨hlb, av, acap, rfl, hcap, hmc, hcell⟩ := hv
  clear hlb hcap hmc hcell hx
  by_cases hl : bs.length ≤ 1048576
  case neg =>
    have hl' : decide ((bs.length : Int) > 1048576) = true := by simp; omega
    go_enter Try.func3, Try.ntmps3
    go_wp2_with fail
    go_ret
    exact ⟨rfl, Below.refl _ _⟩
  case pos =>
  have hl' : decide ((bs.length : Int) > 1048576) = false := by simp; omega
  go_enter Try.func3, Try.ntmps3
  go_wp2_with fail
  refine HDR.out.mono ?_
  rintro e w1 ⟨v, d, rfl, hr, hl0, hl1, hb1⟩
  obtain ⟨v0, v1, rfl, h0, h1⟩ := id hr
  obtain ⟨p0, c0, rfl, -, -⟩ := h0.form
  obtain ⟨p1, c1, rfl, -, -⟩ := h1.form
  have hA : Below w1.heap.size w1 (w1.alloc (.cells #[.slice p0 d.1.length c0, .slice p1 d.2.length c1] 25)) := (Below.refl _ _).alloc (Nat.le_refl _) _
  have HB := Lib.hid (hb1.tr hA); have HR := Lib.hid (hr.keep hA); have X := Lib.hid (heap_alloc_new w1 (.cells #[.slice p0 d.1.length c0, .slice p1 d.2.length c1] 25))
  have hs2 : (w1.alloc (.cells #[.slice p0 d.1.length c0, .slice p1 d.2.length c1] 25)).heap.size = w1.heap.size + 1 := by simp
  clear hA hb1 hr h0 h1 HDR hl'
  have hsz : sizeDisk d ≤ 1099511627776 := by unfold sizeDisk; omega
  go_wp2_with fail
  generalize (w1.alloc (.cells #[.slice p0 d.1.length c0, .slice p1 d.2.length c1] 25)) = w2 at *
  refine (implDiskValid_any _ _ d HR.out).mono ?_
  rintro e w3 ⟨rfl, hb3⟩
  replace X := Lib.hid (box_keep X.out hb3); replace HB := Lib.hid (HB.out.tr hb3); replace HR := Lib.hid (HR.out.keep hb3)
  clear hb3
  have k0 := box_cell X.out 0 _ rfl; have k1 := box_cell X.out 1 _ rfl
  have HVS := specDiskValid_any _ _ d HR.out
  have HS0 := Lib.hid fun wx vx h => implDiskValid_any wx vx (d.1, []) h
  have HS1 := fun wx vx h => implDiskValid_any wx vx (d.1, d.2 ++ [-1]) h
  rw [diskOk_neg] at HS1
  replace HS1 := Lib.hid HS1
  go_wp2_with fail
  refine HVS.mono ?_
  rintro e w4 ⟨rfl, hb4⟩
  replace X := Lib.hid (box_keep X.out hb4); replace HB := Lib.hid (HB.out.tr hb4); replace HR := Lib.hid (HR.out.keep hb4)
  clear hb4 k0 k1 HVS
  have k0 := box_cell X.out 0 _ rfl; have k1 := box_cell X.out 1 _ rfl
  by_cases hok : diskOk d = true
  · have hs0 : diskOk (d.1, []) = true := diskOk_safe (bytesOk_left hok)
    rw [hs0] at HS0
    clear hs0
    rw [hok]
    go_wp2_with fail
    refine wp_region_relx (fun x => { tmps := #[Value.slice av bs.length acap, undef, x 2, .pointer (some ⟨w1.heap.size, 0, none⟩), .bool true, Value.slice av bs.length acap, .int .i64 bs.length, .bool false, Value.slice av bs.length acap, .agg #[.slice p0 d.1.length c0, .slice p1 d.2.length c1], .agg #[.slice p0 d.1.length c0, .slice p1 d.2.length c1], .bool true, .bool true, .agg #[.slice p0 d.1.length c0, .slice p1 d.2.length c1], .bool true, .bool false, x 16, x 17, x 18, x 19, x 20, x 21, x 22, x 23, x 24, x 25, x 26, x 27, x 28, x 29, x 30, x 31, x 32, x 33, x 34, x 35, x 36, x 37, x 38, x 39], defers := [] })
      (fun k => if k = 2 then .bool false else undef) (VG w4 d (.slice p0 d.1.length c0)) (fun _ => Below w4.heap.size)
      (Tl [cst (.bool true), cst (.bool false), cst (.bool false), cst (.pointer (some ⟨w1.heap.size, 0, none⟩)), cst (.slice p0 d.1.length c0), cst (.agg #[.slice p0 d.1.length c0, .slice none 0 0]), cst (.bool true), cst (.bool true), cst (.bool true), cst (.pointer (some ⟨w1.heap.size, 0, none⟩)), cst (.slice p0 d.1.length c0), pur (fun v => ∃ a, v = .slice a 0 0), cst (.pointer (some ⟨w1.heap.size, 1, none⟩)), cst (.slice p1 d.2.length c1), pur (fun v => ∃ a c, v = .slice a d.2.length c), tru, pur (fun v => ∃ a c, v = .slice a (d.2.length + 1) c), tru, cst (.bool false), cst (.bool true), cst (.bool true), cst (.bool true), cst (.bool true), cst (.bool true), cst (.bool true)])
      (by kernel_rfl) (by kernel_rfl) (by kernel_rfl) (stab_Tl ?hst) (fun _ w => Below.refl _ w) ?hG0 ?hput ?hop ?hend
    case hst =>
      simp only [List.mem_cons, List.not_mem_nil, or_false, forall_eq_or_imp, forall_eq]
      refine ⟨?_, ?_, ?_, ?_, ?_, ?_, ?_, ?_, ?_, ?_, ?_, ?_, ?_, ?_, ?_, ?_, ?_, ?_, ?_, ?_, ?_, ?_, ?_, ?_, ?_⟩
      all_goals first | exact stab_cst _ _ | exact stab_pur _ _ | exact stab_tru _
    case hG0 => exact ⟨(Below.refl _ _).drew, (fun h => by cases h), (fun h => by cases h), (fun h => by cases h), (fun h => by cases h), (fun h => by cases h), (fun h => by cases h)⟩
    case hput =>
      refine ⟨?_, ?_, ?_, ?_, ?_, ?_, ?_, ?_, ?_, ?_, ?_, ?_, ?_, ?_, ?_, ?_, ?_, ?_, ?_, ?_, ?_, ?_, ?_, ?_, ?_, trivial⟩
      all_goals first | exact fun x v => rfl | exact trivial
    case hop =>
      refine ⟨?_, ?_, ?_, ?_, ?_, ?_, ?_, ?_, ?_, ?_, ?_, ?_, ?_, ?_, ?_, ?_, ?_, ?_, ?_, ?_, ?_, ?_, ?_, ?_, ?_, trivial⟩
      · refine OpRelX.plain rfl fun n L x w K hn hL hG hdep hK => ?_
        clear hdep
        go_simp
        exact hK _ _ (hG.keep _ (by decide) (by decide) (Below.refl _ _)) (Below.refl _ _) rfl
      · refine OpRelX.plain rfl fun n L x w K hn hL hG hdep hK => ?_
        have h16 : x 16 = _ := (hdep 0 rfl).2 _ rfl
        clear hdep
        simp only [h16] at hK
        go_simp
        exact hK _ _ (hG.keep _ (by decide) (by decide) (Below.refl _ _)) (Below.refl _ _) rfl
      · refine OpRelX.plain rfl fun n L x w K hn hL hG hdep hK => ?_
        have h17 : x 17 = _ := (hdep 1 rfl).2 _ rfl
        clear hdep
        simp only [h17] at hK
        go_simp
        exact hK _ _ (hG.keep _ (by decide) (by decide) (Below.refl _ _)) (Below.refl _ _) rfl
      · refine OpRelX.guarded true ?_ (fun n L x w hG hdep => by have h : x 18 = _ := (hdep 2 rfl).2 _ rfl; simp [Region.wanted, yielded, h]) ?_
        · intro n L x w K hn hL hG hdep _ hK
          clear hdep
          go_simp
          exact hK _ _ (hG.keep _ (by decide) (by decide) (Below.refl _ _)) (Below.refl _ _) rfl
        · intro n L x w hn hL hG hdep h; cases h
      · refine OpRelX.guarded true ?_ (fun n L x w hG hdep => by have h : x 18 = _ := (hdep 2 rfl).2 _ rfl; simp [Region.wanted, yielded, h]) ?_
        · intro n L x w K hn hL hG hdep _ hK
          have h19 : x 19 = _ := (hdep 3 rfl).2 _ rfl
          clear hdep
          have hX := box_keep X.out hG.b
          have k0 := box_cell hX 0 _ rfl; have k1 := box_cell hX 1 _ rfl
          simp only [h19] at hK
          go_simp
          exact hK _ _ (hG.keep _ (by decide) (by decide) (Below.refl _ _)) (Below.refl _ _) rfl
        · intro n L x w hn hL hG hdep h; cases h
      · refine OpRelX.guarded true ?_ (fun n L x w hG hdep => by have h : x 18 = _ := (hdep 2 rfl).2 _ rfl; simp [Region.wanted, yielded, h]) ?_
        · intro n L x w K hn hL hG hdep _ hK
          have h20 : x 20 = _ := (hdep 4 rfl).2 _ rfl
          clear hdep
          simp only [h20] at hK
          go_simp
          exact hK _ _ (hG.keep _ (by decide) (by decide) (Below.refl _ _)) (Below.refl _ _) rfl
        · intro n L x w hn hL hG hdep h; cases h
      · refine OpRelX.guarded true ?_ (fun n L x w hG hdep => by have h : x 18 = _ := (hdep 2 rfl).2 _ rfl; simp [Region.wanted, yielded, h]) ?_
        · intro n L x w K hn hL hG hdep _ hK
          have h21 : x 21 = _ := (hdep 5 rfl).2 _ rfl
          clear hdep
          simp only [h21] at hK
          go_simp
          refine (HS0.out _ _ (HR.out.safe.keep hG.b)).mono ?_
          rintro e w5 ⟨rfl, hb5⟩
          exact hK _ _ (hG.keep _ (by decide) (by decide) hb5) (hb5.mono hG.b.size) rfl
        · intro n L x w hn hL hG hdep h; cases h
      · refine OpRelX.plain rfl fun n L x w K hn hL hG hdep hK => ?_
        have h18 : x 18 = _ := (hdep 2 rfl).2 _ rfl
        have h22 : x 22 = _ := (hdep 6 rfl).2 _ rfl
        clear hdep
        simp only [h18, h22] at hK
        go_simp
        exact hK _ _ (hG.keep _ (by decide) (by decide) (Below.refl _ _)) (Below.refl _ _) rfl
      · refine OpRelX.plain rfl fun n L x w K hn hL hG hdep hK => ?_
        have h23 : x 23 = _ := (hdep 7 rfl).2 _ rfl
        clear hdep
        simp only [h23] at hK
        go_simp
        exact hK _ _ (hG.keep _ (by decide) (by decide) (Below.refl _ _)) (Below.refl _ _) rfl
      · refine OpRelX.guarded true ?_ (fun n L x w hG hdep => by have h : x 24 = _ := (hdep 8 rfl).2 _ rfl; simp [Region.wanted, yielded, h]) ?_
        · intro n L x w K hn hL hG hdep _ hK
          clear hdep
          go_simp
          exact hK _ _ (hG.keep _ (by decide) (by decide) (Below.refl _ _)) (Below.refl _ _) rfl
        · intro n L x w hn hL hG hdep h; cases h
      · refine OpRelX.guarded true ?_ (fun n L x w hG hdep => by have h : x 24 = _ := (hdep 8 rfl).2 _ rfl; simp [Region.wanted, yielded, h]) ?_
        · intro n L x w K hn hL hG hdep _ hK
          have h25 : x 25 = _ := (hdep 9 rfl).2 _ rfl
          clear hdep
          have hX := box_keep X.out hG.b
          have k0 := box_cell hX 0 _ rfl; have k1 := box_cell hX 1 _ rfl
          simp only [h25] at hK
          go_simp
          exact hK _ _ (hG.keep _ (by decide) (by decide) (Below.refl _ _)) (Below.refl _ _) rfl
        · intro n L x w hn hL hG hdep h; cases h
      · refine OpRelX.guarded true ?_ (fun n L x w hG hdep => by have h : x 24 = _ := (hdep 8 rfl).2 _ rfl; simp [Region.wanted, yielded, h]) ?_
        · intro n L x w K hn hL hG hdep _ hK
          clear hdep
          go_simp
          exact hK _ _ (hG.keep _ (by decide) (by decide) ((Below.refl _ _).alloc (Nat.le_refl _) _)) ((Below.refl _ _).alloc hG.b.size _) ⟨_, rfl⟩
        · intro n L x w hn hL hG hdep h; cases h
      · refine OpRelX.guarded true ?_ (fun n L x w hG hdep => by have h : x 24 = _ := (hdep 8 rfl).2 _ rfl; simp [Region.wanted, yielded, h]) ?_
        · intro n L x w K hn hL hG hdep _ hK
          clear hdep
          go_simp
          exact hK _ _ (hG.keep _ (by decide) (by decide) (Below.refl _ _)) (Below.refl _ _) rfl
        · intro n L x w hn hL hG hdep h; cases h
      · refine OpRelX.guarded true ?_ (fun n L x w hG hdep => by have h : x 24 = _ := (hdep 8 rfl).2 _ rfl; simp [Region.wanted, yielded, h]) ?_
        · intro n L x w K hn hL hG hdep _ hK
          have h28 : x 28 = _ := (hdep 12 rfl).2 _ rfl
          clear hdep
          have hX := box_keep X.out hG.b
          have k0 := box_cell hX 0 _ rfl; have k1 := box_cell hX 1 _ rfl
          simp only [h28] at hK
          go_simp
          exact hK _ _ (hG.keep _ (by decide) (by decide) (Below.refl _ _)) (Below.refl _ _) rfl
        · intro n L x w hn hL hG hdep h; cases h
      · refine OpRelX.guarded true ?_ (fun n L x w hG hdep => by have h : x 24 = _ := (hdep 8 rfl).2 _ rfl; simp [Region.wanted, yielded, h]) ?_
        · intro n L x w K hn hL hG hdep _ hK
          obtain ⟨a, h27⟩ := (hdep 11 rfl).2 _ rfl
          have h29 : x 29 = _ := (hdep 13 rfl).2 _ rfl
          clear hdep
          have hs := hG.b.size
          refine wp_appendOw _ _ 23 3 rfl (.int .i64 0) 1 8 Try.underlying23 infoInt rfl (by decide) (by decide) w.heap.size w.heap.size (.slice a 0 0) 0 [] (Ow.nil _ _ _ _ _ _) h27 (.slice p1 d.2.length c1) d.2.length (ints d.2) (HR.out.two.keep hG.b) h29 (ints_one _) (by omega) (by omega) (Nat.le_refl _) ?_
          intro v' w' ho hb
          rw [Nat.zero_add, List.nil_append] at ho
          obtain ⟨a', c', hv, -, -⟩ := ho.rd.form
          have h16 : L 16 = false := by cases h : L 16 with | false => rfl | true => rw [(hG.o1 h).1] at hL; cases hL
          have h17 : L 17 = false := by cases h : L 17 with | false => rfl | true => rw [hG.o2 h] at h16; cases h16
          exact hK v' w' ⟨hG.b.tr hb, fun _ _ => ho.mono hs (Nat.le_refl _), fun h1 h2 => (hG.lit h1 h16).keep hb, fun h => (by rw [show setL L 14 16 = L 16 from rfl, h16] at h; cases h), fun h => (by rw [show setL L 14 17 = L 17 from rfl, h17] at h; cases h), fun h => (by rw [show setL L 14 16 = L 16 from rfl, h16] at h; cases h), fun h => (by rw [show setL L 14 17 = L 17 from rfl, h17] at h; cases h)⟩ (hb.mono hs) ⟨a', c', hv⟩
        · intro n L x w hn hL hG hdep h; cases h
      · refine OpRelX.guarded true ?_ (fun n L x w hG hdep => by have h : x 24 = _ := (hdep 8 rfl).2 _ rfl; simp [Region.wanted, yielded, h]) ?_
        · intro n L x w K hn hL hG hdep _ hK
          clear hdep
          go_simp
          have hb : Below w.heap.size w (w.alloc (.cells #[.int .i64 (-1)] 3)) := (Below.refl _ _).alloc (Nat.le_refl _) _
          have hs := hb.size
          have h16 : L 16 = false := by cases h : L 16 with | false => rfl | true => rw [(hG.o1 h).2] at hL; cases hL
          have h17 : L 17 = false := by cases h : L 17 with | false => rfl | true => rw [hG.o2 h] at h16; cases h16
          exact hK _ _ ⟨hG.b.tr hb, fun h1 h2 => ((hG.a1 h1 h16).keep hb).mono (Nat.le_refl _) hs, fun h1 h2 => lit1 (heap_alloc_new w _), fun h => (by rw [show setL L 15 16 = L 16 from rfl, h16] at h; cases h), fun h => (by rw [show setL L 15 17 = L 17 from rfl, h17] at h; cases h), fun h => (by rw [show setL L 15 16 = L 16 from rfl, h16] at h; cases h), fun h => (by rw [show setL L 15 17 = L 17 from rfl, h17] at h; cases h)⟩ (hb.mono hG.b.size) trivial
        · intro n L x w hn hL hG hdep h; cases h
      · refine OpRelX.guarded true ?_ (fun n L x w hG hdep => by have h : x 24 = _ := (hdep 8 rfl).2 _ rfl; simp [Region.wanted, yielded, h]) ?_
        · intro n L x w K hn hL hG hdep _ hK
          have h1 := (hdep 14 rfl).1
          have h2 := (hdep 15 rfl).1
          clear hdep
          have hs := hG.b.size
          refine wp_appendOw _ _ 23 3 rfl (.int .i64 0) 1 8 Try.underlying23 infoInt rfl (by decide) (by decide) w4.heap.size w.heap.size (x 30) d.2.length (ints d.2) (hG.a1 h1 hL) rfl (x 31) 1 (ints [-1]) (hG.lit h2 hL) rfl (ints_one _) (by omega) (by omega) hs ?_
          intro v' w' ho hb
          obtain ⟨a', c', hv, -, -⟩ := ho.rd.form
          have h17 : L 17 = false := by cases h : L 17 with | false => rfl | true => rw [hG.o2 h] at hL; cases hL
          have e : ints (d.2 ++ [-1]) = ints d.2 ++ ints [-1] := List.map_append
          exact hK v' w' ⟨hG.b.trans hb, fun _ h => (by rw [show setL L 16 16 = true from rfl] at h; cases h), fun _ h => (by rw [show setL L 16 16 = true from rfl] at h; cases h), fun _ => (by rw [e]; exact ho), fun h => (by rw [show setL L 16 17 = L 17 from rfl, h17] at h; cases h), fun _ => ⟨h1, h2⟩, fun h => (by rw [show setL L 16 17 = L 17 from rfl, h17] at h; cases h)⟩ hb ⟨a', c', hv⟩
        · intro n L x w hn hL hG hdep h; cases h
      · refine OpRelX.guarded true ?_ (fun n L x w hG hdep => by have h : x 24 = _ := (hdep 8 rfl).2 _ rfl; simp [Region.wanted, yielded, h]) ?_
        · intro n L x w K hn hL hG hdep _ hK
          have h26 : x 26 = _ := (hdep 10 rfl).2 _ rfl
          obtain ⟨a, c, h32⟩ := (hdep 16 rfl).2 _ rfl
          have h16 := (hdep 16 rfl).1
          clear hdep
          simp only [h26, h32] at hK
          go_simp
          exact hK _ _ ⟨hG.b, hG.a1, hG.lit, hG.a2, fun _ => (by rw [show updO (some 33) x _ 32 = x 32 from rfl, h32]; rfl), hG.o1, fun _ => h16⟩ (Below.refl _ _) trivial
        · intro n L x w hn hL hG hdep h; cases h
      · refine OpRelX.guarded true ?_ (fun n L x w hG hdep => by have h : x 24 = _ := (hdep 8 rfl).2 _ rfl; simp [Region.wanted, yielded, h]) ?_
        · intro n L x w K hn hL hG hdep _ hK
          have h17 := (hdep 17 rfl).1
          have h33 := hG.bld h17
          have ha := hG.a2 (hG.o2 h17)
          clear hdep
          simp only [h33] at hK
          go_simp
          refine (HS1.out _ _ ⟨_, _, rfl, HR.out.one.keep hG.b, by rw [RdIntS, List.length_append]; exact ha.rd⟩).mono ?_
          rintro e w5 ⟨rfl, hb5⟩
          exact hK _ _ (hG.keep _ (by decide) (by decide) hb5) (hb5.mono hG.b.size) rfl
        · intro n L x w hn hL hG hdep h; cases h
      · refine OpRelX.guarded true ?_ (fun n L x w hG hdep => by have h : x 24 = _ := (hdep 8 rfl).2 _ rfl; simp [Region.wanted, yielded, h]) ?_
        · intro n L x w K hn hL hG hdep _ hK
          have h34 : x 34 = _ := (hdep 18 rfl).2 _ rfl
          clear hdep
          simp only [h34] at hK
          go_simp
          exact hK _ _ (hG.keep _ (by decide) (by decide) (Below.refl _ _)) (Below.refl _ _) rfl
        · intro n L x w hn hL hG hdep h; cases h
      · refine OpRelX.plain rfl fun n L x w K hn hL hG hdep hK => ?_
        have h24 : x 24 = _ := (hdep 8 rfl).2 _ rfl
        have h35 : x 35 = _ := (hdep 19 rfl).2 _ rfl
        clear hdep
        simp only [h24, h35] at hK
        go_simp
        exact hK _ _ (hG.keep _ (by decide) (by decide) (Below.refl _ _)) (Below.refl _ _) rfl
      · refine OpRelX.plain rfl fun n L x w K hn hL hG hdep hK => ?_
        have h36 : x 36 = _ := (hdep 20 rfl).2 _ rfl
        clear hdep
        simp only [h36] at hK
        go_simp
        exact hK _ _ (hG.keep _ (by decide) (by decide) (Below.refl _ _)) (Below.refl _ _) rfl
      · refine OpRelX.guarded true ?_ (fun n L x w hG hdep => by have h : x 37 = _ := (hdep 21 rfl).2 _ rfl; simp [Region.wanted, yielded, h]) ?_
        · intro n L x w K hn hL hG hdep _ hK
          clear hdep
          go_simp
          refine (alive_any _).mono ?_
          rintro e w5 ⟨rfl, hb5⟩
          exact hK _ _ (hG.keep _ (by decide) (by decide) hb5) (hb5.mono hG.b.size) rfl
        · intro n L x w hn hL hG hdep h; cases h
      · refine OpRelX.plain rfl fun n L x w K hn hL hG hdep hK => ?_
        have h37 : x 37 = _ := (hdep 21 rfl).2 _ rfl
        have h38 : x 38 = _ := (hdep 22 rfl).2 _ rfl
        clear hdep
        simp only [h37, h38] at hK
        go_simp
        exact hK _ _ (hG.keep _ (by decide) (by decide) (Below.refl _ _)) (Below.refl _ _) rfl
      · refine OpRelX.plain rfl fun n L x w K hn hL hG hdep hK => ?_
        have h39 : x 39 = _ := (hdep 23 rfl).2 _ rfl
        clear hdep
        simp only [h39] at hK
        go_simp
        exact hK _ _ (hG.keep _ (by decide) (by decide) (Below.refl _ _)) (Below.refl _ _) rfl
    case hend =>
      intro n L x w hn hG hh
      have h2 : x 2 = _ := (hh 24 (by decide)).2 _ rfl
      have hb := hG.b
      clear hh hG
      simp only [h2]
      go_wp2_with fail
      go_ret
      exact ⟨rfl, HB.out.tr hb⟩
  · have hok : diskOk d = false := by simpa using hok
    rw [hok]
    clear HS0
    go_wp2_with fail
    refine wp_region_relx (fun x => { tmps := #[Value.slice av bs.length acap, undef, x 2, .pointer (some ⟨w1.heap.size, 0, none⟩), .bool false, Value.slice av bs.length acap, .int .i64 bs.length, .bool false, Value.slice av bs.length acap, .agg #[.slice p0 d.1.length c0, .slice p1 d.2.length c1], .agg #[.slice p0 d.1.length c0, .slice p1 d.2.length c1], .bool false, .bool false, .agg #[.slice p0 d.1.length c0, .slice p1 d.2.length c1], .bool false, .bool false, x 16, x 17, x 18, x 19, x 20, x 21, x 22, x 23, x 24, x 25, x 26, x 27, x 28, x 29, x 30, x 31, x 32, x 33, x 34, x 35, x 36, x 37, x 38, x 39], defers := [] })
      (fun k => if k = 2 then .bool false else undef) (VG w4 d (.slice p0 d.1.length c0)) (fun _ => Below w4.heap.size)
      (Tl [cst (.bool false), cst (.bool true), cst (.bool true), tru, tru, tru, tru, cst (.bool true), cst (.bool true), cst (.pointer (some ⟨w1.heap.size, 0, none⟩)), cst (.slice p0 d.1.length c0), pur (fun v => ∃ a, v = .slice a 0 0), cst (.pointer (some ⟨w1.heap.size, 1, none⟩)), cst (.slice p1 d.2.length c1), pur (fun v => ∃ a c, v = .slice a d.2.length c), tru, pur (fun v => ∃ a c, v = .slice a (d.2.length + 1) c), tru, cst (.bool false), cst (.bool true), cst (.bool true), cst (.bool true), cst (.bool true), cst (.bool true), cst (.bool true)])
      (by kernel_rfl) (by kernel_rfl) (by kernel_rfl) (stab_Tl ?hst) (fun _ w => Below.refl _ w) ?hG0 ?hput ?hop ?hend
    case hst =>
      simp only [List.mem_cons, List.not_mem_nil, or_false, forall_eq_or_imp, forall_eq]
      refine ⟨?_, ?_, ?_, ?_, ?_, ?_, ?_, ?_, ?_, ?_, ?_, ?_, ?_, ?_, ?_, ?_, ?_, ?_, ?_, ?_, ?_, ?_, ?_, ?_, ?_⟩
      all_goals first | exact stab_cst _ _ | exact stab_pur _ _ | exact stab_tru _
    case hG0 => exact ⟨(Below.refl _ _).drew, (fun h => by cases h), (fun h => by cases h), (fun h => by cases h), (fun h => by cases h), (fun h => by cases h), (fun h => by cases h)⟩
    case hput =>
      refine ⟨?_, ?_, ?_, ?_, ?_, ?_, ?_, ?_, ?_, ?_, ?_, ?_, ?_, ?_, ?_, ?_, ?_, ?_, ?_, ?_, ?_, ?_, ?_, ?_, ?_, trivial⟩
      all_goals first | exact fun x v => rfl | exact trivial
    case hop =>
      refine ⟨?_, ?_, ?_, ?_, ?_, ?_, ?_, ?_, ?_, ?_, ?_, ?_, ?_, ?_, ?_, ?_, ?_, ?_, ?_, ?_, ?_, ?_, ?_, ?_, ?_, trivial⟩
      · refine OpRelX.plain rfl fun n L x w K hn hL hG hdep hK => ?_
        clear hdep
        go_simp
        exact hK _ _ (hG.keep _ (by decide) (by decide) (Below.refl _ _)) (Below.refl _ _) rfl
      · refine OpRelX.plain rfl fun n L x w K hn hL hG hdep hK => ?_
        have h16 : x 16 = _ := (hdep 0 rfl).2 _ rfl
        clear hdep
        simp only [h16] at hK
        go_simp
        exact hK _ _ (hG.keep _ (by decide) (by decide) (Below.refl _ _)) (Below.refl _ _) rfl
      · refine OpRelX.plain rfl fun n L x w K hn hL hG hdep hK => ?_
        have h17 : x 17 = _ := (hdep 1 rfl).2 _ rfl
        clear hdep
        simp only [h17] at hK
        go_simp
        exact hK _ _ (hG.keep _ (by decide) (by decide) (Below.refl _ _)) (Below.refl _ _) rfl
      · refine OpRelX.guarded false ?_ (fun n L x w hG hdep => by have h : x 18 = _ := (hdep 2 rfl).2 _ rfl; simp [Region.wanted, yielded, h]) ?_
        · intro n L x w K hn hL hG hdep h; cases h
        · intro n L x w hn hL hG hdep _; exact ⟨trivial, hG.keep _ (by decide) (by decide) (Below.refl _ _)⟩
      · refine OpRelX.guarded false ?_ (fun n L x w hG hdep => by have h : x 18 = _ := (hdep 2 rfl).2 _ rfl; simp [Region.wanted, yielded, h]) ?_
        · intro n L x w K hn hL hG hdep h; cases h
        · intro n L x w hn hL hG hdep _; exact ⟨trivial, hG.keep _ (by decide) (by decide) (Below.refl _ _)⟩
      · refine OpRelX.guarded false ?_ (fun n L x w hG hdep => by have h : x 18 = _ := (hdep 2 rfl).2 _ rfl; simp [Region.wanted, yielded, h]) ?_
        · intro n L x w K hn hL hG hdep h; cases h
        · intro n L x w hn hL hG hdep _; exact ⟨trivial, hG.keep _ (by decide) (by decide) (Below.refl _ _)⟩
      · refine OpRelX.guarded false ?_ (fun n L x w hG hdep => by have h : x 18 = _ := (hdep 2 rfl).2 _ rfl; simp [Region.wanted, yielded, h]) ?_
        · intro n L x w K hn hL hG hdep h; cases h
        · intro n L x w hn hL hG hdep _; exact ⟨trivial, hG.keep _ (by decide) (by decide) (Below.refl _ _)⟩
      · refine OpRelX.plain rfl fun n L x w K hn hL hG hdep hK => ?_
        have h18 : x 18 = _ := (hdep 2 rfl).2 _ rfl
        clear hdep
        simp only [h18] at hK
        go_simp
        exact hK _ _ (hG.keep _ (by decide) (by decide) (Below.refl _ _)) (Below.refl _ _) rfl
      · refine OpRelX.plain rfl fun n L x w K hn hL hG hdep hK => ?_
        have h23 : x 23 = _ := (hdep 7 rfl).2 _ rfl
        clear hdep
        simp only [h23] at hK
        go_simp
        exact hK _ _ (hG.keep _ (by decide) (by decide) (Below.refl _ _)) (Below.refl _ _) rfl
      · refine OpRelX.guarded true ?_ (fun n L x w hG hdep => by have h : x 24 = _ := (hdep 8 rfl).2 _ rfl; simp [Region.wanted, yielded, h]) ?_
        · intro n L x w K hn hL hG hdep _ hK
          clear hdep
          go_simp
          exact hK _ _ (hG.keep _ (by decide) (by decide) (Below.refl _ _)) (Below.refl _ _) rfl
        · intro n L x w hn hL hG hdep h; cases h
      · refine OpRelX.guarded true ?_ (fun n L x w hG hdep => by have h : x 24 = _ := (hdep 8 rfl).2 _ rfl; simp [Region.wanted, yielded, h]) ?_
        · intro n L x w K hn hL hG hdep _ hK
          have h25 : x 25 = _ := (hdep 9 rfl).2 _ rfl
          clear hdep
          have hX := box_keep X.out hG.b
          have k0 := box_cell hX 0 _ rfl; have k1 := box_cell hX 1 _ rfl
          simp only [h25] at hK
          go_simp
          exact hK _ _ (hG.keep _ (by decide) (by decide) (Below.refl _ _)) (Below.refl _ _) rfl
        · intro n L x w hn hL hG hdep h; cases h
      · refine OpRelX.guarded true ?_ (fun n L x w hG hdep => by have h : x 24 = _ := (hdep 8 rfl).2 _ rfl; simp [Region.wanted, yielded, h]) ?_
        · intro n L x w K hn hL hG hdep _ hK
          clear hdep
          go_simp
          exact hK _ _ (hG.keep _ (by decide) (by decide) ((Below.refl _ _).alloc (Nat.le_refl _) _)) ((Below.refl _ _).alloc hG.b.size _) ⟨_, rfl⟩
        · intro n L x w hn hL hG hdep h; cases h
      · refine OpRelX.guarded true ?_ (fun n L x w hG hdep => by have h : x 24 = _ := (hdep 8 rfl).2 _ rfl; simp [Region.wanted, yielded, h]) ?_
        · intro n L x w K hn hL hG hdep _ hK
          clear hdep
          go_simp
          exact hK _ _ (hG.keep _ (by decide) (by decide) (Below.refl _ _)) (Below.refl _ _) rfl
        · intro n L x w hn hL hG hdep h; cases h
      · refine OpRelX.guarded true ?_ (fun n L x w hG hdep => by have h : x 24 = _ := (hdep 8 rfl).2 _ rfl; simp [Region.wanted, yielded, h]) ?_
        · intro n L x w K hn hL hG hdep _ hK
          have h28 : x 28 = _ := (hdep 12 rfl).2 _ rfl
          clear hdep
          have hX := box_keep X.out hG.b
          have k0 := box_cell hX 0 _ rfl; have k1 := box_cell hX 1 _ rfl
          simp only [h28] at hK
          go_simp
          exact hK _ _ (hG.keep _ (by decide) (by decide) (Below.refl _ _)) (Below.refl _ _) rfl
        · intro n L x w hn hL hG hdep h; cases h
      · refine OpRelX.guarded true ?_ (fun n L x w hG hdep => by have h : x 24 = _ := (hdep 8 rfl).2 _ rfl; simp [Region.wanted, yielded, h]) ?_
        · intro n L x w K hn hL hG hdep _ hK
          obtain ⟨a, h27⟩ := (hdep 11 rfl).2 _ rfl
          have h29 : x 29 = _ := (hdep 13 rfl).2 _ rfl
          clear hdep
          have hs := hG.b.size
          refine wp_appendOw _ _ 23 3 rfl (.int .i64 0) 1 8 Try.underlying23 infoInt rfl (by decide) (by decide) w.heap.size w.heap.size (.slice a 0 0) 0 [] (Ow.nil _ _ _ _ _ _) h27 (.slice p1 d.2.length c1) d.2.length (ints d.2) (HR.out.two.keep hG.b) h29 (ints_one _) (by omega) (by omega) (Nat.le_refl _) ?_
          intro v' w' ho hb
          rw [Nat.zero_add, List.nil_append] at ho
          obtain ⟨a', c', hv, -, -⟩ := ho.rd.form
          have h16 : L 16 = false := by cases h : L 16 with | false => rfl | true => rw [(hG.o1 h).1] at hL; cases hL
          have h17 : L 17 = false := by cases h : L 17 with | false => rfl | true => rw [hG.o2 h] at h16; cases h16
          exact hK v' w' ⟨hG.b.tr hb, fun _ _ => ho.mono hs (Nat.le_refl _), fun h1 h2 => (hG.lit h1 h16).keep hb, fun h => (by rw [show setL L 14 16 = L 16 from rfl, h16] at h; cases h), fun h => (by rw [show setL L 14 17 = L 17 from rfl, h17] at h; cases h), fun h => (by rw [show setL L 14 16 = L 16 from rfl, h16] at h; cases h), fun h => (by rw [show setL L 14 17 = L 17 from rfl, h17] at h; cases h)⟩ (hb.mono hs) ⟨a', c', hv⟩
        · intro n L x w hn hL hG hdep h; cases h
      · refine OpRelX.guarded true ?_ (fun n L x w hG hdep => by have h : x 24 = _ := (hdep 8 rfl).2 _ rfl; simp [Region.wanted, yielded, h]) ?_
        · intro n L x w K hn hL hG hdep _ hK
          clear hdep
          go_simp
          have hb : Below w.heap.size w (w.alloc (.cells #[.int .i64 (-1)] 3)) := (Below.refl _ _).alloc (Nat.le_refl _) _
          have hs := hb.size
          have h16 : L 16 = false := by cases h : L 16 with | false => rfl | true => rw [(hG.o1 h).2] at hL; cases hL
          have h17 : L 17 = false := by cases h : L 17 with | false => rfl | true => rw [hG.o2 h] at h16; cases h16
          exact hK _ _ ⟨hG.b.tr hb, fun h1 h2 => ((hG.a1 h1 h16).keep hb).mono (Nat.le_refl _) hs, fun h1 h2 => lit1 (heap_alloc_new w _), fun h => (by rw [show setL L 15 16 = L 16 from rfl, h16] at h; cases h), fun h => (by rw [show setL L 15 17 = L 17 from rfl, h17] at h; cases h), fun h => (by rw [show setL L 15 16 = L 16 from rfl, h16] at h; cases h), fun h => (by rw [show setL L 15 17 = L 17 from rfl, h17] at h; cases h)⟩ (hb.mono hG.b.size) trivial
        · intro n L x w hn hL hG hdep h; cases h
      · refine OpRelX.guarded true ?_ (fun n L x w hG hdep => by have h : x 24 = _ := (hdep 8 rfl).2 _ rfl; simp [Region.wanted, yielded, h]) ?_
        · intro n L x w K hn hL hG hdep _ hK
          have h1 := (hdep 14 rfl).1
          have h2 := (hdep 15 rfl).1
          clear hdep
          have hs := hG.b.size
          refine wp_appendOw _ _ 23 3 rfl (.int .i64 0) 1 8 Try.underlying23 infoInt rfl (by decide) (by decide) w4.heap.size w.heap.size (x 30) d.2.length (ints d.2) (hG.a1 h1 hL) rfl (x 31) 1 (ints [-1]) (hG.lit h2 hL) rfl (ints_one _) (by omega) (by omega) hs ?_
          intro v' w' ho hb
          obtain ⟨a', c', hv, -, -⟩ := ho.rd.form
          have h17 : L 17 = false := by cases h : L 17 with | false => rfl | true => rw [hG.o2 h] at hL; cases hL
          have e : ints (d.2 ++ [-1]) = ints d.2 ++ ints [-1] := List.map_append
          exact hK v' w' ⟨hG.b.trans hb, fun _ h => (by rw [show setL L 16 16 = true from rfl] at h; cases h), fun _ h => (by rw [show setL L 16 16 = true from rfl] at h; cases h), fun _ => (by rw [e]; exact ho), fun h => (by rw [show setL L 16 17 = L 17 from rfl, h17] at h; cases h), fun _ => ⟨h1, h2⟩, fun h => (by rw [show setL L 16 17 = L 17 from rfl, h17] at h; cases h)⟩ hb ⟨a', c', hv⟩
        · intro n L x w hn hL hG hdep h; cases h
      · refine OpRelX.guarded true ?_ (fun n L x w hG hdep => by have h : x 24 = _ := (hdep 8 rfl).2 _ rfl; simp [Region.wanted, yielded, h]) ?_
        · intro n L x w K hn hL hG hdep _ hK
          have h26 : x 26 = _ := (hdep 10 rfl).2 _ rfl
          obtain ⟨a, c, h32⟩ := (hdep 16 rfl).2 _ rfl
          have h16 := (hdep 16 rfl).1
          clear hdep
          simp only [h26, h32] at hK
          go_simp
          exact hK _ _ ⟨hG.b, hG.a1, hG.lit, hG.a2, fun _ => (by rw [show updO (some 33) x _ 32 = x 32 from rfl, h32]; rfl), hG.o1, fun _ => h16⟩ (Below.refl _ _) trivial
        · intro n L x w hn hL hG hdep h; cases h
      · refine OpRelX.guarded true ?_ (fun n L x w hG hdep => by have h : x 24 = _ := (hdep 8 rfl).2 _ rfl; simp [Region.wanted, yielded, h]) ?_
        · intro n L x w K hn hL hG hdep _ hK
          have h17 := (hdep 17 rfl).1
          have h33 := hG.bld h17
          have ha := hG.a2 (hG.o2 h17)
          clear hdep
          simp only [h33] at hK
          go_simp
          refine (HS1.out _ _ ⟨_, _, rfl, HR.out.one.keep hG.b, by rw [RdIntS, List.length_append]; exact ha.rd⟩).mono ?_
          rintro e w5 ⟨rfl, hb5⟩
          exact hK _ _ (hG.keep _ (by decide) (by decide) hb5) (hb5.mono hG.b.size) rfl
        · intro n L x w hn hL hG hdep h; cases h
      · refine OpRelX.guarded true ?_ (fun n L x w hG hdep => by have h : x 24 = _ := (hdep 8 rfl).2 _ rfl; simp [Region.wanted, yielded, h]) ?_
        · intro n L x w K hn hL hG hdep _ hK
          have h34 : x 34 = _ := (hdep 18 rfl).2 _ rfl
          clear hdep
          simp only [h34] at hK
          go_simp
          exact hK _ _ (hG.keep _ (by decide) (by decide) (Below.refl _ _)) (Below.refl _ _) rfl
        · intro n L x w hn hL hG hdep h; cases h
      · refine OpRelX.plain rfl fun n L x w K hn hL hG hdep hK => ?_
        have h24 : x 24 = _ := (hdep 8 rfl).2 _ rfl
        have h35 : x 35 = _ := (hdep 19 rfl).2 _ rfl
        clear hdep
        simp only [h24, h35] at hK
        go_simp
        exact hK _ _ (hG.keep _ (by decide) (by decide) (Below.refl _ _)) (Below.refl _ _) rfl
      · refine OpRelX.plain rfl fun n L x w K hn hL hG hdep hK => ?_
        have h36 : x 36 = _ := (hdep 20 rfl).2 _ rfl
        clear hdep
        simp only [h36] at hK
        go_simp
        exact hK _ _ (hG.keep _ (by decide) (by decide) (Below.refl _ _)) (Below.refl _ _) rfl
      · refine OpRelX.guarded true ?_ (fun n L x w hG hdep => by have h : x 37 = _ := (hdep 21 rfl).2 _ rfl; simp [Region.wanted, yielded, h]) ?_
        · intro n L x w K hn hL hG hdep _ hK
          clear hdep
          go_simp
          refine (alive_any _).mono ?_
          rintro e w5 ⟨rfl, hb5⟩
          exact hK _ _ (hG.keep _ (by decide) (by decide) hb5) (hb5.mono hG.b.size) rfl
        · intro n L x w hn hL hG hdep h; cases h
      · refine OpRelX.plain rfl fun n L x w K hn hL hG hdep hK => ?_
        have h37 : x 37 = _ := (hdep 21 rfl).2 _ rfl
        have h38 : x 38 = _ := (hdep 22 rfl).2 _ rfl
        clear hdep
        simp only [h37, h38] at hK
        go_simp
        exact hK _ _ (hG.keep _ (by decide) (by decide) (Below.refl _ _)) (Below.refl _ _) rfl
      · refine OpRelX.plain rfl fun n L x w K hn hL hG hdep hK => ?_
        have h39 : x 39 = _ := (hdep 23 rfl).2 _ rfl
        clear hdep
        simp only [h39] at hK
        go_simp
        exact hK _ _ (hG.keep _ (by decide) (by decide) (Below.refl _ _)) (Below.refl _ _) rfl
    case hend =>
      intro n L x w hn hG hh
      have h2 : x 2 = _ := (hh 24 (by decide)).2 _ rfl
      have hb := hG.b
      clear hh hG
      simp only [h2]
      go_wp2_with fail
      go_ret
      exact ⟨rfl, HB.out.tr hb⟩
set_option maxRecDepth 100000 in
theorem FnDiskValid_lifted (os : Os) (started : os.Started) (H : Type) (enc : TypeId × Value → H) :
    ReturnsInHanded {} Try.checked os 3 .any (Rows.fnDiskValidSpec.pre6 enc Try.prog Try.f3 Rows.fnDiskValidRow.domain false) (Rows.fnDiskValidSpec.post enc Try.prog Try.f3 false true false false) := by
  refine returnsInHanded_of_change (C := Try.checked) tryOwn started (by kernel_rfl) Try.func3
    (ChangeSpec.witness6 (enc := enc) (C := Try.checked) false ⟨#[], #[.slice none 0 0], []⟩ 8 (by kernel_rfl) (by kernel_rfl) (by kernel_rfl) (by kernel_rfl)) ?_
  intro W base args ds gs before hval0 hW hcnd _
  have hval : ∀ (j : Nat) t v, Try.f3.params[j]? = some t → args[j]? = some v → Value.okWide Try.prog W .any base t v := hval0
  have hW' := hW
  obtain ⟨p, q, hA0, hV, rfl, hfz, hnd⟩ := hW
  have hA : DataW.TrodAll enc Try.prog W 0 (fun _ => true) true Try.f3.params.toList args.toList ds p := hA0
  rw [Try.params3] at hA hval
  obtain ⟨v0, vs0, d0, ds0, p0, q0, hargs, rfl, rfl, h0, r0⟩ := trodAll_cons hA
  obtain ⟨rfl, rfl, rfl⟩ := trodAll_nil r0
  obtain rfl : args = #[v0] := by cases args; simp_all
  obtain ⟨rfl, rfl⟩ := trodVars_none hV
  have k0 := h0
  have lt0 : ∀ x ∈ p0, x.block < W.heap.size := by obtain ⟨m, hm⟩ := k0; exact DataW.trod_lt m _ _ _ hm
  obtain ⟨c0, len0, cap0, rfl⟩ := okWide_slice Try.underlying22 (hval 0 22 v0 rfl rfl)
  obtain ⟨n0, x0, t0⟩ := trod_of rfl h0
  obtain ⟨xs0, w0, g0⟩ := trod_bytes Try.underlying22 Try.underlying5 (by kernel_rfl) t0
  clear hA0 hval0
  refine (FnDiskValid_walk W _ xs0 w0 g0).mono fun e W' ⟨he, bel⟩ => ?_
  subst he
  exact ⟨_, rfl, _, _, _, [], _, [], hW', trodAll_mk1 (shut_bool Try.underlying4 _), (trodAll_cons_mk (Below.trod tryLaidOut (by kernel_rfl) (of_decide_eq_true (by kernel_rfl)) k0 bel lt0) trodAll_mk0), rfl, bel.frame _, fun h => by cases h⟩

set_option maxHeartbeats 4000000 in
set_option maxRecDepth 100000 in
theorem FnDiskValid_holds : Rows.FnDiskValidSaid := by
  refine OpenClaim.holds_of_wide 3 Try.f3 rfl rfl rfl rfl rfl rfl rfl ⟨rfl, rfl, rfl, rfl, rfl⟩ rfl rfl rfl rfl rfl ?hfn Try.func3 ?closed ?hinst ?hwrap (fun os started H enc _ => FnDiskValid_lifted os started H enc)
  case hfn => as_aux_lemma => kernel_rfl
  case hinst => exact of_decide_eq_true (by as_aux_lemma => kernel_rfl)
  case hwrap => unfold Func.isWrapper; first | (rw [if_pos (by decide +kernel)]; kernel_rfl) | (rw [if_neg (by decide +kernel)]; exact ⟨rfl, rfl⟩)
  case closed =>
    simp only [joinedFacts, Bool.and_eq_true]
    repeat' apply And.intro
    all_goals first
      | with_reducible exact mayEnter_ok
      | (rewrite [liftsFinal_no]; as_aux_lemma => kernel_rfl)
      | (rewrite [make_cut]; as_aux_lemma => kernel_rfl)
      | as_aux_lemma => kernel_rfl
end Go.Proofs.Ytdflpildopefaaa
