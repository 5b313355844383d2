/-
  A valid graph is valid with half of its edges; with an edge from a vertex to itself it is not: for every code: no condition.
-/
import Derived.Test.YtoolmknnmmecfaaArgs
import Derived.Test.YtoolmknnmmecfaaDrawN
import Derived.Test.YtoolmknnmmecfaaApp
import Derived.Test.YtoolmknnmmecfaaAddE
import Derived.Test.YtoolmknnmmecfaaRelX
import Derived.Test.YtoolmknnmmecfaaBytes
import Derived.Test.YtoolmknnmmecfaaFacts
namespace Go.Proofs.Ytoolmknnmmecfaa
open Go.ChangeShapes Go.WideShapes Go.ChangeAt Go.RowKit
set_option linter.unusedVariables false

theorem tris_take3 (ys : List Tri) : ∀ m, tris (ys.take m) = (tris ys).take (m * 3) := by
  induction ys with
  | nil => intro m; simp [tris]
  | cons y ys ih =>
    intro m
    cases m with
    | zero => simp [tris]
    | succ m => rw [List.take_succ_cons, tris_cons, tris_cons, ih, show (m + 1) * 3 = m * 3 + 1 + 1 + 1 from by omega]; rfl
theorem RdGraph.half {w : World} {p : Option Addr} {c : Nat} {g : GraphD} (h : RdGraph w (.agg #[.int .i64 g.1, .slice p g.2.length c]) g) (k : Nat) (hk : k ≤ g.2.length) : RdGraph w (.agg #[.int .i64 g.1, .slice p k c]) (g.1, g.2.take k) := by
  obtain ⟨v1, e, h1⟩ := h
  obtain rfl : Value.slice p g.2.length c = v1 := by simpa using e
  refine ⟨_, rfl, ?_⟩
  have h2 := Rd.take h1 k hk
  rw [← tris_take3] at h2
  have hl : (g.2.take k).length = k := by simp; omega
  show Rd w 3 _ (g.2.take k).length _
  rw [hl]; exact h2
theorem RdGraph.eds {w : World} {v0 v1 : Value} {g : GraphD} (h : RdGraph w (.agg #[v0, v1]) g) : RdEdgeS w v1 g.2 := by
  obtain ⟨u, e, h1⟩ := h
  obtain ⟨-, rfl⟩ : v0 = _ ∧ v1 = u := by simpa using e
  exact h1
theorem graphOk_take {g : GraphD} (h : GraphOk g) (k : Nat) : graphOk (g.1, g.2.take k) = true := by
  obtain ⟨h1, h2, h3⟩ := h
  refine decide_eq_true ⟨h1, by simp only [List.length_take]; omega, fun i hi => ?_⟩
  simp only [List.length_take] at hi
  have h4 := h3 i (by omega)
  have e : ∀ j, j ≤ i → (g.2.take k).getD j triZ = g.2.getD j triZ := fun j hj => by
    simp only [List.getD_eq_getElem?_getD]; rw [List.getElem?_take_of_lt (by omega)]
  unfold EdgeAt at h4 ⊢
  simp only [e i (Nat.le_refl _)]
  refine ⟨h4.1, h4.2.1, h4.2.2.1, h4.2.2.2.1, fun h0 => ?_⟩
  rw [e (i - 1) (by omega)]
  exact h4.2.2.2.2 h0
theorem graphOk_self (g : GraphD) : graphOk (g.1, g.2 ++ [(0, 0, 0)]) = false := by
  refine graphOk_edge (k := g.2.length) (by simp) fun h => ?_
  have e : (g.2 ++ [((0 : Int), (0 : Int), (0 : Int))]).getD g.2.length triZ = (0, 0, 0) := by simp
  simp only [EdgeAt, e] at h
  exact h.2.2.1 rfl
/-- What holds while the edge is laid behind the others. -/
structure VG (B : World) (g : GraphD) (n : Nat) (L : Nat → Bool) (x : Nat → Value) (w : World) : Prop where
  b : Below B.heap.size B w
  a1 : L 21 = true → L 24 = false → Ow B.heap.size w.heap.size w 38 3 (x 37) g.2.length (tris g.2)
  lit : L 23 = true → L 24 = false → Rd w 3 (x 39) 1 (tris [(0, 0, 0)])
  a2 : L 24 = true → Ow B.heap.size w.heap.size w 38 3 (x 40) (g.2.length + 1) (tris (g.2 ++ [(0, 0, 0)]))
  bld : L 25 = true → x 41 = .agg #[.int .i64 g.1, x 40]
  o1 : L 24 = true → L 21 = true ∧ L 23 = true
  o2 : L 25 = true → L 24 = true
theorem VG.keep {B : World} {g : GraphD} {n : Nat} {L : Nat → Bool} {x : Nat → Value} {w w' : World} (h : VG B g n L x w) {i k : Nat} (v : Value) (hi : i ≠ 21 ∧ i ≠ 23 ∧ i ≠ 24 ∧ i ≠ 25) (hk : k ≠ 37 ∧ k ≠ 39 ∧ k ≠ 40 ∧ k ≠ 41) (hb : Below w.heap.size w w') : VG B g (n + 1) (setL L i) (updO (some k) x v) w' := by
  obtain ⟨i1, i2, i3, i4⟩ := hi
  obtain ⟨k1, k2, k3, k4⟩ := hk
  have e : ∀ j, j ≠ i → setL L i j = L j := fun j hj => by simp [setL, hj]
  have f : ∀ j, j ≠ k → updO (some k) x v j = x j := fun j hj => by simp [updO, upd, hj]
  have hs := hb.size
  refine ⟨h.b.tr hb, fun h1 h2 => ?_, fun h1 h2 => ?_, fun h1 => ?_, fun h1 => ?_, fun h1 => ?_, fun h1 => ?_⟩
  · rw [e 21 (Ne.symm i1)] at h1; rw [e 24 (Ne.symm i3)] at h2; rw [f 37 (Ne.symm k1)]; exact ((h.a1 h1 h2).keep hb).mono (Nat.le_refl _) hs
  · rw [e 23 (Ne.symm i2)] at h1; rw [e 24 (Ne.symm i3)] at h2; rw [f 39 (Ne.symm k2)]; exact (h.lit h1 h2).keep hb
  · rw [e 24 (Ne.symm i3)] at h1; rw [f 40 (Ne.symm k3)]; exact ((h.a2 h1).keep hb).mono (Nat.le_refl _) hs
  · rw [e 25 (Ne.symm i4)] at h1; rw [f 41 (Ne.symm k4), f 40 (Ne.symm k3)]; exact h.bld h1
  · rw [e 24 (Ne.symm i3)] at h1; rw [e 21 (Ne.symm i1), e 23 (Ne.symm i2)]; exact h.o1 h1
  · rw [e 25 (Ne.symm i4)] at h1; rw [e 24 (Ne.symm i3)]; exact h.o2 h1

set_option maxRecDepth 100000 in
set_option maxHeartbeats 8000000 in
theorem FnGraphValid_walk (w : World) (va : Value) (bs : List Int) (hv : Rd w 1 va bs.length (bys bs)) (hx : ∀ x ∈ bs, 0 ≤ x ∧ x ≤ 255) :
    Calls Try.prog 5 #[va] w fun e w' => e = .returned (.bool true) ∧ Below w.heap.size w w' := by
  have HDR := Lib.hid (DrawGraphValid_any w va bs hv hx)
  obtain ⟨hlb, av, acap, rfl, hcap, hmc, hcell⟩ := hv
  clear hlb hcap hmc hcell hx
  by_cases hl : bs.length ≤ 1048576
  case neg =>
    have hl' : decide ((bs.length : Int) > 1048576) = true := by simp; omega
    go_enter Try.func5, Try.ntmps5
    go_wp2_with fail
    go_ret
    exact ⟨rfl, Below.refl _ _⟩
  case pos =>
  have hl' : decide ((bs.length : Int) > 1048576) = false := by simp; omega
  go_enter Try.func5, Try.ntmps5
  go_wp2_with fail
  refine HDR.out.mono ?_
  rintro e w1 ⟨p, c, g, rfl, hr, hlen, hgm, hc, hb1⟩
  have hA : Below w1.heap.size w1 (w1.alloc (.cells #[.int .i64 g.1, .slice p g.2.length c] 29)) := (Below.refl _ _).alloc (Nat.le_refl _) _
  have HB := Lib.hid (hb1.tr hA); have HR := Lib.hid (hr.keep hA); have X := Lib.hid (heap_alloc_new w1 (.cells #[.int .i64 g.1, .slice p g.2.length c] 29))
  have hs2 : (w1.alloc (.cells #[.int .i64 g.1, .slice p g.2.length c] 29)).heap.size = w1.heap.size + 1 := by simp
  clear hA hb1 hr HDR hl'
  go_wp2_with fail
  generalize (w1.alloc (.cells #[.int .i64 g.1, .slice p g.2.length c] 29)) = w2 at *
  have k0 := box_cell X.out 0 (.int .i64 g.1) rfl; have k1 := box_cell X.out 1 (.slice p g.2.length c) rfl
  refine (implGraphValid_any _ _ g HR.out).mono ?_
  rintro e w3 ⟨rfl, hb3⟩
  replace X := Lib.hid (box_keep X.out hb3); replace HB := Lib.hid (HB.out.tr hb3); replace HR := Lib.hid (HR.out.keep hb3)
  clear hb3 k0 k1
  have k0 := box_cell X.out 0 (.int .i64 g.1) rfl; have k1 := box_cell X.out 1 (.slice p g.2.length c) rfl
  have HVS := Lib.hid (specGraphValid_any _ _ g HR.out)
  obtain ⟨hf, hhf⟩ : ∃ hf, g.2.length / 2 = hf := ⟨_, rfl⟩
  have HS0 := Lib.hid fun wx vx h => implGraphValid_any wx vx (g.1, g.2.take hf) h
  have HS1 := fun wx vx h => implGraphValid_any wx vx (g.1, g.2 ++ [(0, 0, 0)]) h
  rw [graphOk_self] at HS1
  replace HS1 := Lib.hid HS1
  have hf1 : hf ≤ g.2.length := by omega
  have hf2 : hf ≤ c := by omega
  have hf3 : ((g.2.length : Int) / 2) = (hf : Int) := by omega
  have hf4 : IntKind.i64.wrap (hf : Int) = (hf : Int) := IntWalk.i64_in _ (by omega)
  go_wp2_with fail
  refine HVS.out.mono ?_
  rintro e w4 ⟨rfl, hb4⟩
  replace X := Lib.hid (box_keep X.out hb4); replace HB := Lib.hid (HB.out.tr hb4); replace HR := Lib.hid (HR.out.keep hb4)
  clear hb4 k0 k1 HVS
  have k0 := box_cell X.out 0 (.int .i64 g.1) rfl; have k1 := box_cell X.out 1 (.slice p g.2.length c) rfl
  by_cases hok : graphOk g = true
  · have hs0 : graphOk (g.1, g.2.take hf) = true := graphOk_take (graphOk_yes hok) hf
    rw [hs0] at HS0
    clear hs0
    rw [hok]
    go_wp2_with fail
    refine wp_region_relx (fun x => { tmps := #[Value.slice av bs.length acap, undef, x 2, .pointer (some ⟨w1.heap.size, 0, none⟩), .bool true, Value.slice av bs.length acap, .int .i64 bs.length, .bool false, Value.slice av bs.length acap, .agg #[.int .i64 g.1, .slice p g.2.length c], .agg #[.int .i64 g.1, .slice p g.2.length c], .bool true, .bool true, .agg #[.int .i64 g.1, .slice p g.2.length c], .bool true, .bool false, x 16, x 17, x 18, x 19, x 20, x 21, x 22, x 23, x 24, x 25, x 26, x 27, x 28, x 29, x 30, x 31, x 32, x 33, x 34, x 35, x 36, x 37, x 38, x 39, x 40, x 41, x 42, x 43, x 44, x 45, x 46, x 47], defers := [] })
      (fun k => if k = 2 then .bool false else undef) (VG w4 g) (fun _ => Below w4.heap.size)
      (Tl [cst (.bool true), cst (.bool false), cst (.bool false), cst (.pointer (some ⟨w1.heap.size, 0, none⟩)), cst (.int .i64 g.1), cst (.pointer (some ⟨w1.heap.size, 1, none⟩)), cst (.slice p g.2.length c), cst (.pointer (some ⟨w1.heap.size, 1, none⟩)), cst (.slice p g.2.length c), cst (.int .i64 g.2.length), cst (.int .i64 hf), cst (.slice p hf c), cst (.agg #[.int .i64 g.1, .slice p hf c]), cst (.bool true), cst (.bool true), cst (.bool true), cst (.pointer (some ⟨w1.heap.size, 0, none⟩)), cst (.int .i64 g.1), pur (fun v => ∃ a, v = .slice a 0 0), cst (.pointer (some ⟨w1.heap.size, 1, none⟩)), cst (.slice p g.2.length c), pur (fun v => ∃ a c, v = .slice a g.2.length c), cst (.agg #[.int .i64 0, .int .i64 0, .int .i64 0]), tru, pur (fun v => ∃ a c, v = .slice a (g.2.length + 1) c), tru, cst (.bool false), cst (.bool true), cst (.bool true), cst (.bool true), cst (.bool true), cst (.bool true), cst (.bool true)])
      (by kernel_rfl) (by kernel_rfl) (by kernel_rfl) (stab_Tl ?hst) (fun _ w => Below.refl _ w) ?hG0 ?hput ?hop ?hend
    case hst =>
      simp only [List.mem_cons, List.not_mem_nil, or_false, forall_eq_or_imp, forall_eq]
      refine ⟨?_, ?_, ?_, ?_, ?_, ?_, ?_, ?_, ?_, ?_, ?_, ?_, ?_, ?_, ?_, ?_, ?_, ?_, ?_, ?_, ?_, ?_, ?_, ?_, ?_, ?_, ?_, ?_, ?_, ?_, ?_, ?_, ?_⟩
      all_goals first | exact stab_cst _ _ | exact stab_pur _ _ | exact stab_tru _
    case hG0 => exact ⟨(Below.refl _ _).drew, (fun h => by cases h), (fun h => by cases h), (fun h => by cases h), (fun h => by cases h), (fun h => by cases h), (fun h => by cases h)⟩
    case hput =>
      refine ⟨?_, ?_, ?_, ?_, ?_, ?_, ?_, ?_, ?_, ?_, ?_, ?_, ?_, ?_, ?_, ?_, ?_, ?_, ?_, ?_, ?_, ?_, ?_, ?_, ?_, ?_, ?_, ?_, ?_, ?_, ?_, ?_, ?_, trivial⟩
      all_goals first | exact fun x v => rfl | exact trivial
    case hop =>
      refine ⟨?_, ?_, ?_, ?_, ?_, ?_, ?_, ?_, ?_, ?_, ?_, ?_, ?_, ?_, ?_, ?_, ?_, ?_, ?_, ?_, ?_, ?_, ?_, ?_, ?_, ?_, ?_, ?_, ?_, ?_, ?_, ?_, ?_, trivial⟩
      · refine OpRelX.plain rfl fun n L x w K hn hL hG hdep hK => ?_
        clear hdep
        go_simp
        exact hK _ _ (hG.keep _ (by decide) (by decide) (Below.refl _ _)) (Below.refl _ _) rfl
      · refine OpRelX.plain rfl fun n L x w K hn hL hG hdep hK => ?_
        have h16 : x 16 = _ := (hdep 0 rfl).2 _ rfl
        clear hdep
        simp only [h16] at hK
        go_simp
        exact hK _ _ (hG.keep _ (by decide) (by decide) (Below.refl _ _)) (Below.refl _ _) rfl
      · refine OpRelX.plain rfl fun n L x w K hn hL hG hdep hK => ?_
        have h17 : x 17 = _ := (hdep 1 rfl).2 _ rfl
        clear hdep
        simp only [h17] at hK
        go_simp
        exact hK _ _ (hG.keep _ (by decide) (by decide) (Below.refl _ _)) (Below.refl _ _) rfl
      · refine OpRelX.guarded true ?_ (fun n L x w hG hdep => by have h : x 18 = _ := (hdep 2 rfl).2 _ rfl; simp [Region.wanted, yielded, h]) ?_
        · intro n L x w K hn hL hG hdep _ hK
          clear hdep
          go_simp
          exact hK _ _ (hG.keep _ (by decide) (by decide) (Below.refl _ _)) (Below.refl _ _) rfl
        · intro n L x w hn hL hG hdep h; cases h
      · refine OpRelX.guarded true ?_ (fun n L x w hG hdep => by have h : x 18 = _ := (hdep 2 rfl).2 _ rfl; simp [Region.wanted, yielded, h]) ?_
        · intro n L x w K hn hL hG hdep _ hK
          have h19 : x 19 = _ := (hdep 3 rfl).2 _ rfl
          have hX := box_keep X.out hG.b
          have k0 := box_cell hX 0 (.int .i64 g.1) rfl; have k1 := box_cell hX 1 (.slice p g.2.length c) rfl
          clear hdep
          simp only [h19] at hK
          go_simp
          exact hK _ _ (hG.keep _ (by decide) (by decide) (Below.refl _ _)) (Below.refl _ _) rfl
        · intro n L x w hn hL hG hdep h; cases h
      · refine OpRelX.guarded true ?_ (fun n L x w hG hdep => by have h : x 18 = _ := (hdep 2 rfl).2 _ rfl; simp [Region.wanted, yielded, h]) ?_
        · intro n L x w K hn hL hG hdep _ hK
          clear hdep
          go_simp
          exact hK _ _ (hG.keep _ (by decide) (by decide) (Below.refl _ _)) (Below.refl _ _) rfl
        · intro n L x w hn hL hG hdep h; cases h
      · refine OpRelX.guarded true ?_ (fun n L x w hG hdep => by have h : x 18 = _ := (hdep 2 rfl).2 _ rfl; simp [Region.wanted, yielded, h]) ?_
        · intro n L x w K hn hL hG hdep _ hK
          have h21 : x 21 = _ := (hdep 5 rfl).2 _ rfl
          have hX := box_keep X.out hG.b
          have k0 := box_cell hX 0 (.int .i64 g.1) rfl; have k1 := box_cell hX 1 (.slice p g.2.length c) rfl
          clear hdep
          simp only [h21] at hK
          go_simp
          exact hK _ _ (hG.keep _ (by decide) (by decide) (Below.refl _ _)) (Below.refl _ _) rfl
        · intro n L x w hn hL hG hdep h; cases h
      · refine OpRelX.guarded true ?_ (fun n L x w hG hdep => by have h : x 18 = _ := (hdep 2 rfl).2 _ rfl; simp [Region.wanted, yielded, h]) ?_
        · intro n L x w K hn hL hG hdep _ hK
          clear hdep
          go_simp
          exact hK _ _ (hG.keep _ (by decide) (by decide) (Below.refl _ _)) (Below.refl _ _) rfl
        · intro n L x w hn hL hG hdep h; cases h
      · refine OpRelX.guarded true ?_ (fun n L x w hG hdep => by have h : x 18 = _ := (hdep 2 rfl).2 _ rfl; simp [Region.wanted, yielded, h]) ?_
        · intro n L x w K hn hL hG hdep _ hK
          have h23 : x 23 = _ := (hdep 7 rfl).2 _ rfl
          have hX := box_keep X.out hG.b
          have k0 := box_cell hX 0 (.int .i64 g.1) rfl; have k1 := box_cell hX 1 (.slice p g.2.length c) rfl
          clear hdep
          simp only [h23] at hK
          go_simp
          exact hK _ _ (hG.keep _ (by decide) (by decide) (Below.refl _ _)) (Below.refl _ _) rfl
        · intro n L x w hn hL hG hdep h; cases h
      · refine OpRelX.guarded true ?_ (fun n L x w hG hdep => by have h : x 18 = _ := (hdep 2 rfl).2 _ rfl; simp [Region.wanted, yielded, h]) ?_
        · intro n L x w K hn hL hG hdep _ hK
          have h24 : x 24 = _ := (hdep 8 rfl).2 _ rfl
          clear hdep
          simp only [h24] at hK
          go_simp
          exact hK _ _ (hG.keep _ (by decide) (by decide) (Below.refl _ _)) (Below.refl _ _) rfl
        · intro n L x w hn hL hG hdep h; cases h
      · refine OpRelX.guarded true ?_ (fun n L x w hG hdep => by have h : x 18 = _ := (hdep 2 rfl).2 _ rfl; simp [Region.wanted, yielded, h]) ?_
        · intro n L x w K hn hL hG hdep _ hK
          have h25 : x 25 = _ := (hdep 9 rfl).2 _ rfl
          clear hdep
          simp only [h25] at hK
          go_simp
          exact hK _ _ (hG.keep _ (by decide) (by decide) (Below.refl _ _)) (Below.refl _ _) rfl
        · intro n L x w hn hL hG hdep h; cases h
      · refine OpRelX.guarded true ?_ (fun n L x w hG hdep => by have h : x 18 = _ := (hdep 2 rfl).2 _ rfl; simp [Region.wanted, yielded, h]) ?_
        · intro n L x w K hn hL hG hdep _ hK
          have h22 : x 22 = _ := (hdep 6 rfl).2 _ rfl
          have h26 : x 26 = _ := (hdep 10 rfl).2 _ rfl
          clear hdep
          simp only [h22, h26] at hK
          go_simp
          exact hK _ _ (hG.keep _ (by decide) (by decide) (Below.refl _ _)) (Below.refl _ _) rfl
        · intro n L x w hn hL hG hdep h; cases h
      · refine OpRelX.guarded true ?_ (fun n L x w hG hdep => by have h : x 18 = _ := (hdep 2 rfl).2 _ rfl; simp [Region.wanted, yielded, h]) ?_
        · intro n L x w K hn hL hG hdep _ hK
          have h20 : x 20 = _ := (hdep 4 rfl).2 _ rfl
          have h27 : x 27 = _ := (hdep 11 rfl).2 _ rfl
          clear hdep
          simp only [h20, h27] at hK
          go_simp
          exact hK _ _ (hG.keep _ (by decide) (by decide) (Below.refl _ _)) (Below.refl _ _) rfl
        · intro n L x w hn hL hG hdep h; cases h
      · refine OpRelX.guarded true ?_ (fun n L x w hG hdep => by have h : x 18 = _ := (hdep 2 rfl).2 _ rfl; simp [Region.wanted, yielded, h]) ?_
        · intro n L x w K hn hL hG hdep _ hK
          have h28 : x 28 = _ := (hdep 12 rfl).2 _ rfl
          clear hdep
          simp only [h28] at hK
          go_simp
          refine (HS0.out _ _ ((HR.out.keep hG.b).half hf hf1)).mono ?_
          rintro e w5 ⟨rfl, hb5⟩
          exact hK _ _ (hG.keep _ (by decide) (by decide) hb5) (hb5.mono hG.b.size) rfl
        · intro n L x w hn hL hG hdep h; cases h
      · refine OpRelX.plain rfl fun n L x w K hn hL hG hdep hK => ?_
        have h18 : x 18 = _ := (hdep 2 rfl).2 _ rfl
        have h29 : x 29 = _ := (hdep 13 rfl).2 _ rfl
        clear hdep
        simp only [h18, h29] at hK
        go_simp
        exact hK _ _ (hG.keep _ (by decide) (by decide) (Below.refl _ _)) (Below.refl _ _) rfl
      · refine OpRelX.plain rfl fun n L x w K hn hL hG hdep hK => ?_
        have h30 : x 30 = _ := (hdep 14 rfl).2 _ rfl
        clear hdep
        simp only [h30] at hK
        go_simp
        exact hK _ _ (hG.keep _ (by decide) (by decide) (Below.refl _ _)) (Below.refl _ _) rfl
      · refine OpRelX.guarded true ?_ (fun n L x w hG hdep => by have h : x 31 = _ := (hdep 15 rfl).2 _ rfl; simp [Region.wanted, yielded, h]) ?_
        · intro n L x w K hn hL hG hdep _ hK
          clear hdep
          go_simp
          exact hK _ _ (hG.keep _ (by decide) (by decide) (Below.refl _ _)) (Below.refl _ _) rfl
        · intro n L x w hn hL hG hdep h; cases h
      · refine OpRelX.guarded true ?_ (fun n L x w hG hdep => by have h : x 31 = _ := (hdep 15 rfl).2 _ rfl; simp [Region.wanted, yielded, h]) ?_
        · intro n L x w K hn hL hG hdep _ hK
          have h32 : x 32 = _ := (hdep 16 rfl).2 _ rfl
          have hX := box_keep X.out hG.b
          have k0 := box_cell hX 0 (.int .i64 g.1) rfl; have k1 := box_cell hX 1 (.slice p g.2.length c) rfl
          clear hdep
          simp only [h32] at hK
          go_simp
          exact hK _ _ (hG.keep _ (by decide) (by decide) (Below.refl _ _)) (Below.refl _ _) rfl
        · intro n L x w hn hL hG hdep h; cases h
      · refine OpRelX.guarded true ?_ (fun n L x w hG hdep => by have h : x 31 = _ := (hdep 15 rfl).2 _ rfl; simp [Region.wanted, yielded, h]) ?_
        · intro n L x w K hn hL hG hdep _ hK
          clear hdep
          go_simp
          exact hK _ _ (hG.keep _ (by decide) (by decide) ((Below.refl _ _).alloc (Nat.le_refl _) _)) ((Below.refl _ _).alloc hG.b.size _) ⟨_, rfl⟩
        · intro n L x w hn hL hG hdep h; cases h
      · refine OpRelX.guarded true ?_ (fun n L x w hG hdep => by have h : x 31 = _ := (hdep 15 rfl).2 _ rfl; simp [Region.wanted, yielded, h]) ?_
        · intro n L x w K hn hL hG hdep _ hK
          clear hdep
          go_simp
          exact hK _ _ (hG.keep _ (by decide) (by decide) (Below.refl _ _)) (Below.refl _ _) rfl
        · intro n L x w hn hL hG hdep h; cases h
      · refine OpRelX.guarded true ?_ (fun n L x w hG hdep => by have h : x 31 = _ := (hdep 15 rfl).2 _ rfl; simp [Region.wanted, yielded, h]) ?_
        · intro n L x w K hn hL hG hdep _ hK
          have h35 : x 35 = _ := (hdep 19 rfl).2 _ rfl
          have hX := box_keep X.out hG.b
          have k0 := box_cell hX 0 (.int .i64 g.1) rfl; have k1 := box_cell hX 1 (.slice p g.2.length c) rfl
          clear hdep
          simp only [h35] at hK
          go_simp
          exact hK _ _ (hG.keep _ (by decide) (by decide) (Below.refl _ _)) (Below.refl _ _) rfl
        · intro n L x w hn hL hG hdep h; cases h
      · refine OpRelX.guarded true ?_ (fun n L x w hG hdep => by have h : x 31 = _ := (hdep 15 rfl).2 _ rfl; simp [Region.wanted, yielded, h]) ?_
        · intro n L x w K hn hL hG hdep _ hK
          obtain ⟨a, h34⟩ := (hdep 18 rfl).2 _ rfl
          have h36 : x 36 = _ := (hdep 20 rfl).2 _ rfl
          clear hdep
          have hs := hG.b.size
          refine wp_appendOw _ _ 27 38 rfl (.agg #[.int .i64 0, .int .i64 0, .int .i64 0]) 3 24 Try.underlying27 infoEdge rfl (by decide) (by decide) w.heap.size w.heap.size (.slice a 0 0) 0 [] (Ow.nil _ _ _ _ _ _) h34 (.slice p g.2.length c) g.2.length (tris g.2) (HR.out.eds.keep hG.b) h36 (tris_one _) (by omega) (by omega) (Nat.le_refl _) ?_
          intro v' w' ho hb
          rw [Nat.zero_add, List.nil_append] at ho
          obtain ⟨a', c', hv, -, -⟩ := Rd.form ho.rd
          have h24 : L 24 = false := by cases h : L 24 with | false => rfl | true => rw [(hG.o1 h).1] at hL; cases hL
          have h25 : L 25 = false := by cases h : L 25 with | false => rfl | true => rw [hG.o2 h] at h24; cases h24
          exact hK v' w' ⟨hG.b.tr hb, fun _ _ => ho.mono hs (Nat.le_refl _), fun h1 h2 => (hG.lit h1 h24).keep hb, fun h => (by rw [show setL L 21 24 = L 24 from rfl, h24] at h; cases h), fun h => (by rw [show setL L 21 25 = L 25 from rfl, h25] at h; cases h), fun h => (by rw [show setL L 21 24 = L 24 from rfl, h24] at h; cases h), fun h => (by rw [show setL L 21 25 = L 25 from rfl, h25] at h; cases h)⟩ (hb.mono hs) ⟨a', c', hv⟩
        · intro n L x w hn hL hG hdep h; cases h
      · refine OpRelX.guarded true ?_ (fun n L x w hG hdep => by have h : x 31 = _ := (hdep 15 rfl).2 _ rfl; simp [Region.wanted, yielded, h]) ?_
        · intro n L x w K hn hL hG hdep _ hK
          clear hdep
          go_simp
          exact hK _ _ (hG.keep _ (by decide) (by decide) (Below.refl _ _)) (Below.refl _ _) rfl
        · intro n L x w hn hL hG hdep h; cases h
      · refine OpRelX.guarded true ?_ (fun n L x w hG hdep => by have h : x 31 = _ := (hdep 15 rfl).2 _ rfl; simp [Region.wanted, yielded, h]) ?_
        · intro n L x w K hn hL hG hdep _ hK
          have h38 : x 38 = _ := (hdep 22 rfl).2 _ rfl
          clear hdep
          simp only [h38] at hK
          go_simp
          have hb : Below w.heap.size w (w.alloc (.cells #[.int .i64 0, .int .i64 0, .int .i64 0] 38)) := (Below.refl _ _).alloc (Nat.le_refl _) _
          have hs := hb.size
          have h24 : L 24 = false := by cases h : L 24 with | false => rfl | true => rw [(hG.o1 h).2] at hL; cases hL
          have h25 : L 25 = false := by cases h : L 25 with | false => rfl | true => rw [hG.o2 h] at h24; cases h24
          exact hK _ _ ⟨hG.b.tr hb, fun h1 h2 => ((hG.a1 h1 h24).keep hb).mono (Nat.le_refl _) hs, fun h1 h2 => lit3 w _ rfl 0 0 0, fun h => (by rw [show setL L 23 24 = L 24 from rfl, h24] at h; cases h), fun h => (by rw [show setL L 23 25 = L 25 from rfl, h25] at h; cases h), fun h => (by rw [show setL L 23 24 = L 24 from rfl, h24] at h; cases h), fun h => (by rw [show setL L 23 25 = L 25 from rfl, h25] at h; cases h)⟩ (hb.mono hG.b.size) trivial
        · intro n L x w hn hL hG hdep h; cases h
      · refine OpRelX.guarded true ?_ (fun n L x w hG hdep => by have h : x 31 = _ := (hdep 15 rfl).2 _ rfl; simp [Region.wanted, yielded, h]) ?_
        · intro n L x w K hn hL hG hdep _ hK
          have h1 := (hdep 21 rfl).1
          have h2 := (hdep 23 rfl).1
          clear hdep
          have hs := hG.b.size
          refine wp_appendOw _ _ 27 38 rfl (.agg #[.int .i64 0, .int .i64 0, .int .i64 0]) 3 24 Try.underlying27 infoEdge rfl (by decide) (by decide) w4.heap.size w.heap.size (x 37) g.2.length (tris g.2) (hG.a1 h1 hL) rfl (x 39) 1 (tris [(0, 0, 0)]) (hG.lit h2 hL) rfl (tris_one _) (by omega) (by omega) hs ?_
          intro v' w' ho hb
          obtain ⟨a', c', hv, -, -⟩ := Rd.form ho.rd
          have h25 : L 25 = false := by cases h : L 25 with | false => rfl | true => rw [hG.o2 h] at hL; cases hL
          exact hK v' w' ⟨hG.b.trans hb, fun _ h => (by rw [show setL L 24 24 = true from rfl] at h; cases h), fun _ h => (by rw [show setL L 24 24 = true from rfl] at h; cases h), fun _ => (by rw [tris_append]; exact ho), fun h => (by rw [show setL L 24 25 = L 25 from rfl, h25] at h; cases h), fun _ => ⟨h1, h2⟩, fun h => (by rw [show setL L 24 25 = L 25 from rfl, h25] at h; cases h)⟩ hb ⟨a', c', hv⟩
        · intro n L x w hn hL hG hdep h; cases h
      · refine OpRelX.guarded true ?_ (fun n L x w hG hdep => by have h : x 31 = _ := (hdep 15 rfl).2 _ rfl; simp [Region.wanted, yielded, h]) ?_
        · intro n L x w K hn hL hG hdep _ hK
          have h33 : x 33 = _ := (hdep 17 rfl).2 _ rfl
          obtain ⟨a, c, h40⟩ := (hdep 24 rfl).2 _ rfl
          have h24 := (hdep 24 rfl).1
          clear hdep
          simp only [h33, h40] at hK
          go_simp
          exact hK _ _ ⟨hG.b, hG.a1, hG.lit, hG.a2, fun _ => (by rw [show updO (some 41) x _ 40 = x 40 from rfl, h40]; rfl), hG.o1, fun _ => h24⟩ (Below.refl _ _) trivial
        · intro n L x w hn hL hG hdep h; cases h
      · refine OpRelX.guarded true ?_ (fun n L x w hG hdep => by have h : x 31 = _ := (hdep 15 rfl).2 _ rfl; simp [Region.wanted, yielded, h]) ?_
        · intro n L x w K hn hL hG hdep _ hK
          have h25 := (hdep 25 rfl).1
          have h41 := hG.bld h25
          have ha := hG.a2 (hG.o2 h25)
          clear hdep
          simp only [h41] at hK
          go_simp
          refine (HS1.out _ _ ⟨_, rfl, by show Rd _ 3 _ (g.2 ++ [(0, 0, 0)]).length _; rw [List.length_append]; exact ha.rd⟩).mono ?_
          rintro e w5 ⟨rfl, hb5⟩
          exact hK _ _ (hG.keep _ (by decide) (by decide) hb5) (hb5.mono hG.b.size) rfl
        · intro n L x w hn hL hG hdep h; cases h
      · refine OpRelX.guarded true ?_ (fun n L x w hG hdep => by have h : x 31 = _ := (hdep 15 rfl).2 _ rfl; simp [Region.wanted, yielded, h]) ?_
        · intro n L x w K hn hL hG hdep _ hK
          have h42 : x 42 = _ := (hdep 26 rfl).2 _ rfl
          clear hdep
          simp only [h42] at hK
          go_simp
          exact hK _ _ (hG.keep _ (by decide) (by decide) (Below.refl _ _)) (Below.refl _ _) rfl
        · intro n L x w hn hL hG hdep h; cases h
      · refine OpRelX.plain rfl fun n L x w K hn hL hG hdep hK => ?_
        have h31 : x 31 = _ := (hdep 15 rfl).2 _ rfl
        have h43 : x 43 = _ := (hdep 27 rfl).2 _ rfl
        clear hdep
        simp only [h31, h43] at hK
        go_simp
        exact hK _ _ (hG.keep _ (by decide) (by decide) (Below.refl _ _)) (Below.refl _ _) rfl
      · refine OpRelX.plain rfl fun n L x w K hn hL hG hdep hK => ?_
        have h44 : x 44 = _ := (hdep 28 rfl).2 _ rfl
        clear hdep
        simp only [h44] at hK
        go_simp
        exact hK _ _ (hG.keep _ (by decide) (by decide) (Below.refl _ _)) (Below.refl _ _) rfl
      · refine OpRelX.guarded true ?_ (fun n L x w hG hdep => by have h : x 45 = _ := (hdep 29 rfl).2 _ rfl; simp [Region.wanted, yielded, h]) ?_
        · intro n L x w K hn hL hG hdep _ hK
          clear hdep
          go_simp
          refine (alive_any _).mono ?_
          rintro e w5 ⟨rfl, hb5⟩
          exact hK _ _ (hG.keep _ (by decide) (by decide) hb5) (hb5.mono hG.b.size) rfl
        · intro n L x w hn hL hG hdep h; cases h
      · refine OpRelX.plain rfl fun n L x w K hn hL hG hdep hK => ?_
        have h45 : x 45 = _ := (hdep 29 rfl).2 _ rfl
        have h46 : x 46 = _ := (hdep 30 rfl).2 _ rfl
        clear hdep
        simp only [h45, h46] at hK
        go_simp
        exact hK _ _ (hG.keep _ (by decide) (by decide) (Below.refl _ _)) (Below.refl _ _) rfl
      · refine OpRelX.plain rfl fun n L x w K hn hL hG hdep hK => ?_
        have h47 : x 47 = _ := (hdep 31 rfl).2 _ rfl
        clear hdep
        simp only [h47] at hK
        go_simp
        exact hK _ _ (hG.keep _ (by decide) (by decide) (Below.refl _ _)) (Below.refl _ _) rfl
    case hend =>
      intro n L x w hn hG hh
      have h2 : x 2 = _ := (hh 32 (by decide)).2 _ rfl
      have hb := hG.b
      clear hh hG
      simp only [h2]
      go_wp2_with fail
      go_ret
      exact ⟨rfl, HB.out.tr hb⟩
  · have hok : graphOk g = false := by simpa using hok
    rw [hok]
    clear HS0
    go_wp2_with fail
    refine wp_region_relx (fun x => { tmps := #[Value.slice av bs.length acap, undef, x 2, .pointer (some ⟨w1.heap.size, 0, none⟩), .bool false, Value.slice av bs.length acap, .int .i64 bs.length, .bool false, Value.slice av bs.length acap, .agg #[.int .i64 g.1, .slice p g.2.length c], .agg #[.int .i64 g.1, .slice p g.2.length c], .bool false, .bool false, .agg #[.int .i64 g.1, .slice p g.2.length c], .bool false, .bool false, x 16, x 17, x 18, x 19, x 20, x 21, x 22, x 23, x 24, x 25, x 26, x 27, x 28, x 29, x 30, x 31, x 32, x 33, x 34, x 35, x 36, x 37, x 38, x 39, x 40, x 41, x 42, x 43, x 44, x 45, x 46, x 47], defers := [] })
      (fun k => if k = 2 then .bool false else undef) (VG w4 g) (fun _ => Below w4.heap.size)
      (Tl [cst (.bool false), cst (.bool true), cst (.bool true), tru, tru, tru, tru, tru, tru, tru, tru, tru, tru, tru, cst (.bool true), cst (.bool true), cst (.pointer (some ⟨w1.heap.size, 0, none⟩)), cst (.int .i64 g.1), pur (fun v => ∃ a, v = .slice a 0 0), cst (.pointer (some ⟨w1.heap.size, 1, none⟩)), cst (.slice p g.2.length c), pur (fun v => ∃ a c, v = .slice a g.2.length c), cst (.agg #[.int .i64 0, .int .i64 0, .int .i64 0]), tru, pur (fun v => ∃ a c, v = .slice a (g.2.length + 1) c), tru, cst (.bool false), cst (.bool true), cst (.bool true), cst (.bool true), cst (.bool true), cst (.bool true), cst (.bool true)])
      (by kernel_rfl) (by kernel_rfl) (by kernel_rfl) (stab_Tl ?hst) (fun _ w => Below.refl _ w) ?hG0 ?hput ?hop ?hend
    case hst =>
      simp only [List.mem_cons, List.not_mem_nil, or_false, forall_eq_or_imp, forall_eq]
      refine ⟨?_, ?_, ?_, ?_, ?_, ?_, ?_, ?_, ?_, ?_, ?_, ?_, ?_, ?_, ?_, ?_, ?_, ?_, ?_, ?_, ?_, ?_, ?_, ?_, ?_, ?_, ?_, ?_, ?_, ?_, ?_, ?_, ?_⟩
      all_goals first | exact stab_cst _ _ | exact stab_pur _ _ | exact stab_tru _
    case hG0 => exact ⟨(Below.refl _ _).drew, (fun h => by cases h), (fun h => by cases h), (fun h => by cases h), (fun h => by cases h), (fun h => by cases h), (fun h => by cases h)⟩
    case hput =>
      refine ⟨?_, ?_, ?_, ?_, ?_, ?_, ?_, ?_, ?_, ?_, ?_, ?_, ?_, ?_, ?_, ?_, ?_, ?_, ?_, ?_, ?_, ?_, ?_, ?_, ?_, ?_, ?_, ?_, ?_, ?_, ?_, ?_, ?_, trivial⟩
      all_goals first | exact fun x v => rfl | exact trivial
    case hop =>
      refine ⟨?_, ?_, ?_, ?_, ?_, ?_, ?_, ?_, ?_, ?_, ?_, ?_, ?_, ?_, ?_, ?_, ?_, ?_, ?_, ?_, ?_, ?_, ?_, ?_, ?_, ?_, ?_, ?_, ?_, ?_, ?_, ?_, ?_, trivial⟩
      · refine OpRelX.plain rfl fun n L x w K hn hL hG hdep hK => ?_
        clear hdep
        go_simp
        exact hK _ _ (hG.keep _ (by decide) (by decide) (Below.refl _ _)) (Below.refl _ _) rfl
      · refine OpRelX.plain rfl fun n L x w K hn hL hG hdep hK => ?_
        have h16 : x 16 = _ := (hdep 0 rfl).2 _ rfl
        clear hdep
        simp only [h16] at hK
        go_simp
        exact hK _ _ (hG.keep _ (by decide) (by decide) (Below.refl _ _)) (Below.refl _ _) rfl
      · refine OpRelX.plain rfl fun n L x w K hn hL hG hdep hK => ?_
        have h17 : x 17 = _ := (hdep 1 rfl).2 _ rfl
        clear hdep
        simp only [h17] at hK
        go_simp
        exact hK _ _ (hG.keep _ (by decide) (by decide) (Below.refl _ _)) (Below.refl _ _) rfl
      · refine OpRelX.guarded false ?_ (fun n L x w hG hdep => by have h : x 18 = _ := (hdep 2 rfl).2 _ rfl; simp [Region.wanted, yielded, h]) ?_
        · intro n L x w K hn hL hG hdep h; cases h
        · intro n L x w hn hL hG hdep _; exact ⟨trivial, hG.keep _ (by decide) (by decide) (Below.refl _ _)⟩
      · refine OpRelX.guarded false ?_ (fun n L x w hG hdep => by have h : x 18 = _ := (hdep 2 rfl).2 _ rfl; simp [Region.wanted, yielded, h]) ?_
        · intro n L x w K hn hL hG hdep h; cases h
        · intro n L x w hn hL hG hdep _; exact ⟨trivial, hG.keep _ (by decide) (by decide) (Below.refl _ _)⟩
      · refine OpRelX.guarded false ?_ (fun n L x w hG hdep => by have h : x 18 = _ := (hdep 2 rfl).2 _ rfl; simp [Region.wanted, yielded, h]) ?_
        · intro n L x w K hn hL hG hdep h; cases h
        · intro n L x w hn hL hG hdep _; exact ⟨trivial, hG.keep _ (by decide) (by decide) (Below.refl _ _)⟩
      · refine OpRelX.guarded false ?_ (fun n L x w hG hdep => by have h : x 18 = _ := (hdep 2 rfl).2 _ rfl; simp [Region.wanted, yielded, h]) ?_
        · intro n L x w K hn hL hG hdep h; cases h
        · intro n L x w hn hL hG hdep _; exact ⟨trivial, hG.keep _ (by decide) (by decide) (Below.refl _ _)⟩
      · refine OpRelX.guarded false ?_ (fun n L x w hG hdep => by have h : x 18 = _ := (hdep 2 rfl).2 _ rfl; simp [Region.wanted, yielded, h]) ?_
        · intro n L x w K hn hL hG hdep h; cases h
        · intro n L x w hn hL hG hdep _; exact ⟨trivial, hG.keep _ (by decide) (by decide) (Below.refl _ _)⟩
      · refine OpRelX.guarded false ?_ (fun n L x w hG hdep => by have h : x 18 = _ := (hdep 2 rfl).2 _ rfl; simp [Region.wanted, yielded, h]) ?_
        · intro n L x w K hn hL hG hdep h; cases h
        · intro n L x w hn hL hG hdep _; exact ⟨trivial, hG.keep _ (by decide) (by decide) (Below.refl _ _)⟩
      · refine OpRelX.guarded false ?_ (fun n L x w hG hdep => by have h : x 18 = _ := (hdep 2 rfl).2 _ rfl; simp [Region.wanted, yielded, h]) ?_
        · intro n L x w K hn hL hG hdep h; cases h
        · intro n L x w hn hL hG hdep _; exact ⟨trivial, hG.keep _ (by decide) (by decide) (Below.refl _ _)⟩
      · refine OpRelX.guarded false ?_ (fun n L x w hG hdep => by have h : x 18 = _ := (hdep 2 rfl).2 _ rfl; simp [Region.wanted, yielded, h]) ?_
        · intro n L x w K hn hL hG hdep h; cases h
        · intro n L x w hn hL hG hdep _; exact ⟨trivial, hG.keep _ (by decide) (by decide) (Below.refl _ _)⟩
      · refine OpRelX.guarded false ?_ (fun n L x w hG hdep => by have h : x 18 = _ := (hdep 2 rfl).2 _ rfl; simp [Region.wanted, yielded, h]) ?_
        · intro n L x w K hn hL hG hdep h; cases h
        · intro n L x w hn hL hG hdep _; exact ⟨trivial, hG.keep _ (by decide) (by decide) (Below.refl _ _)⟩
      · refine OpRelX.guarded false ?_ (fun n L x w hG hdep => by have h : x 18 = _ := (hdep 2 rfl).2 _ rfl; simp [Region.wanted, yielded, h]) ?_
        · intro n L x w K hn hL hG hdep h; cases h
        · intro n L x w hn hL hG hdep _; exact ⟨trivial, hG.keep _ (by decide) (by decide) (Below.refl _ _)⟩
      · refine OpRelX.guarded false ?_ (fun n L x w hG hdep => by have h : x 18 = _ := (hdep 2 rfl).2 _ rfl; simp [Region.wanted, yielded, h]) ?_
        · intro n L x w K hn hL hG hdep h; cases h
        · intro n L x w hn hL hG hdep _; exact ⟨trivial, hG.keep _ (by decide) (by decide) (Below.refl _ _)⟩
      · refine OpRelX.plain rfl fun n L x w K hn hL hG hdep hK => ?_
        have h18 : x 18 = _ := (hdep 2 rfl).2 _ rfl
        clear hdep
        simp only [h18] at hK
        go_simp
        exact hK _ _ (hG.keep _ (by decide) (by decide) (Below.refl _ _)) (Below.refl _ _) rfl
      · refine OpRelX.plain rfl fun n L x w K hn hL hG hdep hK => ?_
        have h30 : x 30 = _ := (hdep 14 rfl).2 _ rfl
        clear hdep
        simp only [h30] at hK
        go_simp
        exact hK _ _ (hG.keep _ (by decide) (by decide) (Below.refl _ _)) (Below.refl _ _) rfl
      · refine OpRelX.guarded true ?_ (fun n L x w hG hdep => by have h : x 31 = _ := (hdep 15 rfl).2 _ rfl; simp [Region.wanted, yielded, h]) ?_
        · intro n L x w K hn hL hG hdep _ hK
          clear hdep
          go_simp
          exact hK _ _ (hG.keep _ (by decide) (by decide) (Below.refl _ _)) (Below.refl _ _) rfl
        · intro n L x w hn hL hG hdep h; cases h
      · refine OpRelX.guarded true ?_ (fun n L x w hG hdep => by have h : x 31 = _ := (hdep 15 rfl).2 _ rfl; simp [Region.wanted, yielded, h]) ?_
        · intro n L x w K hn hL hG hdep _ hK
          have h32 : x 32 = _ := (hdep 16 rfl).2 _ rfl
          have hX := box_keep X.out hG.b
          have k0 := box_cell hX 0 (.int .i64 g.1) rfl; have k1 := box_cell hX 1 (.slice p g.2.length c) rfl
          clear hdep
          simp only [h32] at hK
          go_simp
          exact hK _ _ (hG.keep _ (by decide) (by decide) (Below.refl _ _)) (Below.refl _ _) rfl
        · intro n L x w hn hL hG hdep h; cases h
      · refine OpRelX.guarded true ?_ (fun n L x w hG hdep => by have h : x 31 = _ := (hdep 15 rfl).2 _ rfl; simp [Region.wanted, yielded, h]) ?_
        · intro n L x w K hn hL hG hdep _ hK
          clear hdep
          go_simp
          exact hK _ _ (hG.keep _ (by decide) (by decide) ((Below.refl _ _).alloc (Nat.le_refl _) _)) ((Below.refl _ _).alloc hG.b.size _) ⟨_, rfl⟩
        · intro n L x w hn hL hG hdep h; cases h
      · refine OpRelX.guarded true ?_ (fun n L x w hG hdep => by have h : x 31 = _ := (hdep 15 rfl).2 _ rfl; simp [Region.wanted, yielded, h]) ?_
        · intro n L x w K hn hL hG hdep _ hK
          clear hdep
          go_simp
          exact hK _ _ (hG.keep _ (by decide) (by decide) (Below.refl _ _)) (Below.refl _ _) rfl
        · intro n L x w hn hL hG hdep h; cases h
      · refine OpRelX.guarded true ?_ (fun n L x w hG hdep => by have h : x 31 = _ := (hdep 15 rfl).2 _ rfl; simp [Region.wanted, yielded, h]) ?_
        · intro n L x w K hn hL hG hdep _ hK
          have h35 : x 35 = _ := (hdep 19 rfl).2 _ rfl
          have hX := box_keep X.out hG.b
          have k0 := box_cell hX 0 (.int .i64 g.1) rfl; have k1 := box_cell hX 1 (.slice p g.2.length c) rfl
          clear hdep
          simp only [h35] at hK
          go_simp
          exact hK _ _ (hG.keep _ (by decide) (by decide) (Below.refl _ _)) (Below.refl _ _) rfl
        · intro n L x w hn hL hG hdep h; cases h
      · refine OpRelX.guarded true ?_ (fun n L x w hG hdep => by have h : x 31 = _ := (hdep 15 rfl).2 _ rfl; simp [Region.wanted, yielded, h]) ?_
        · intro n L x w K hn hL hG hdep _ hK
          obtain ⟨a, h34⟩ := (hdep 18 rfl).2 _ rfl
          have h36 : x 36 = _ := (hdep 20 rfl).2 _ rfl
          clear hdep
          have hs := hG.b.size
          refine wp_appendOw _ _ 27 38 rfl (.agg #[.int .i64 0, .int .i64 0, .int .i64 0]) 3 24 Try.underlying27 infoEdge rfl (by decide) (by decide) w.heap.size w.heap.size (.slice a 0 0) 0 [] (Ow.nil _ _ _ _ _ _) h34 (.slice p g.2.length c) g.2.length (tris g.2) (HR.out.eds.keep hG.b) h36 (tris_one _) (by omega) (by omega) (Nat.le_refl _) ?_
          intro v' w' ho hb
          rw [Nat.zero_add, List.nil_append] at ho
          obtain ⟨a', c', hv, -, -⟩ := Rd.form ho.rd
          have h24 : L 24 = false := by cases h : L 24 with | false => rfl | true => rw [(hG.o1 h).1] at hL; cases hL
          have h25 : L 25 = false := by cases h : L 25 with | false => rfl | true => rw [hG.o2 h] at h24; cases h24
          exact hK v' w' ⟨hG.b.tr hb, fun _ _ => ho.mono hs (Nat.le_refl _), fun h1 h2 => (hG.lit h1 h24).keep hb, fun h => (by rw [show setL L 21 24 = L 24 from rfl, h24] at h; cases h), fun h => (by rw [show setL L 21 25 = L 25 from rfl, h25] at h; cases h), fun h => (by rw [show setL L 21 24 = L 24 from rfl, h24] at h; cases h), fun h => (by rw [show setL L 21 25 = L 25 from rfl, h25] at h; cases h)⟩ (hb.mono hs) ⟨a', c', hv⟩
        · intro n L x w hn hL hG hdep h; cases h
      · refine OpRelX.guarded true ?_ (fun n L x w hG hdep => by have h : x 31 = _ := (hdep 15 rfl).2 _ rfl; simp [Region.wanted, yielded, h]) ?_
        · intro n L x w K hn hL hG hdep _ hK
          clear hdep
          go_simp
          exact hK _ _ (hG.keep _ (by decide) (by decide) (Below.refl _ _)) (Below.refl _ _) rfl
        · intro n L x w hn hL hG hdep h; cases h
      · refine OpRelX.guarded true ?_ (fun n L x w hG hdep => by have h : x 31 = _ := (hdep 15 rfl).2 _ rfl; simp [Region.wanted, yielded, h]) ?_
        · intro n L x w K hn hL hG hdep _ hK
          have h38 : x 38 = _ := (hdep 22 rfl).2 _ rfl
          clear hdep
          simp only [h38] at hK
          go_simp
          have hb : Below w.heap.size w (w.alloc (.cells #[.int .i64 0, .int .i64 0, .int .i64 0] 38)) := (Below.refl _ _).alloc (Nat.le_refl _) _
          have hs := hb.size
          have h24 : L 24 = false := by cases h : L 24 with | false => rfl | true => rw [(hG.o1 h).2] at hL; cases hL
          have h25 : L 25 = false := by cases h : L 25 with | false => rfl | true => rw [hG.o2 h] at h24; cases h24
          exact hK _ _ ⟨hG.b.tr hb, fun h1 h2 => ((hG.a1 h1 h24).keep hb).mono (Nat.le_refl _) hs, fun h1 h2 => lit3 w _ rfl 0 0 0, fun h => (by rw [show setL L 23 24 = L 24 from rfl, h24] at h; cases h), fun h => (by rw [show setL L 23 25 = L 25 from rfl, h25] at h; cases h), fun h => (by rw [show setL L 23 24 = L 24 from rfl, h24] at h; cases h), fun h => (by rw [show setL L 23 25 = L 25 from rfl, h25] at h; cases h)⟩ (hb.mono hG.b.size) trivial
        · intro n L x w hn hL hG hdep h; cases h
      · refine OpRelX.guarded true ?_ (fun n L x w hG hdep => by have h : x 31 = _ := (hdep 15 rfl).2 _ rfl; simp [Region.wanted, yielded, h]) ?_
        · intro n L x w K hn hL hG hdep _ hK
          have h1 := (hdep 21 rfl).1
          have h2 := (hdep 23 rfl).1
          clear hdep
          have hs := hG.b.size
          refine wp_appendOw _ _ 27 38 rfl (.agg #[.int .i64 0, .int .i64 0, .int .i64 0]) 3 24 Try.underlying27 infoEdge rfl (by decide) (by decide) w4.heap.size w.heap.size (x 37) g.2.length (tris g.2) (hG.a1 h1 hL) rfl (x 39) 1 (tris [(0, 0, 0)]) (hG.lit h2 hL) rfl (tris_one _) (by omega) (by omega) hs ?_
          intro v' w' ho hb
          obtain ⟨a', c', hv, -, -⟩ := Rd.form ho.rd
          have h25 : L 25 = false := by cases h : L 25 with | false => rfl | true => rw [hG.o2 h] at hL; cases hL
          exact hK v' w' ⟨hG.b.trans hb, fun _ h => (by rw [show setL L 24 24 = true from rfl] at h; cases h), fun _ h => (by rw [show setL L 24 24 = true from rfl] at h; cases h), fun _ => (by rw [tris_append]; exact ho), fun h => (by rw [show setL L 24 25 = L 25 from rfl, h25] at h; cases h), fun _ => ⟨h1, h2⟩, fun h => (by rw [show setL L 24 25 = L 25 from rfl, h25] at h; cases h)⟩ hb ⟨a', c', hv⟩
        · intro n L x w hn hL hG hdep h; cases h
      · refine OpRelX.guarded true ?_ (fun n L x w hG hdep => by have h : x 31 = _ := (hdep 15 rfl).2 _ rfl; simp [Region.wanted, yielded, h]) ?_
        · intro n L x w K hn hL hG hdep _ hK
          have h33 : x 33 = _ := (hdep 17 rfl).2 _ rfl
          obtain ⟨a, c, h40⟩ := (hdep 24 rfl).2 _ rfl
          have h24 := (hdep 24 rfl).1
          clear hdep
          simp only [h33, h40] at hK
          go_simp
          exact hK _ _ ⟨hG.b, hG.a1, hG.lit, hG.a2, fun _ => (by rw [show updO (some 41) x _ 40 = x 40 from rfl, h40]; rfl), hG.o1, fun _ => h24⟩ (Below.refl _ _) trivial
        · intro n L x w hn hL hG hdep h; cases h
      · refine OpRelX.guarded true ?_ (fun n L x w hG hdep => by have h : x 31 = _ := (hdep 15 rfl).2 _ rfl; simp [Region.wanted, yielded, h]) ?_
        · intro n L x w K hn hL hG hdep _ hK
          have h25 := (hdep 25 rfl).1
          have h41 := hG.bld h25
          have ha := hG.a2 (hG.o2 h25)
          clear hdep
          simp only [h41] at hK
          go_simp
          refine (HS1.out _ _ ⟨_, rfl, by show Rd _ 3 _ (g.2 ++ [(0, 0, 0)]).length _; rw [List.length_append]; exact ha.rd⟩).mono ?_
          rintro e w5 ⟨rfl, hb5⟩
          exact hK _ _ (hG.keep _ (by decide) (by decide) hb5) (hb5.mono hG.b.size) rfl
        · intro n L x w hn hL hG hdep h; cases h
      · refine OpRelX.guarded true ?_ (fun n L x w hG hdep => by have h : x 31 = _ := (hdep 15 rfl).2 _ rfl; simp [Region.wanted, yielded, h]) ?_
        · intro n L x w K hn hL hG hdep _ hK
          have h42 : x 42 = _ := (hdep 26 rfl).2 _ rfl
          clear hdep
          simp only [h42] at hK
          go_simp
          exact hK _ _ (hG.keep _ (by decide) (by decide) (Below.refl _ _)) (Below.refl _ _) rfl
        · intro n L x w hn hL hG hdep h; cases h
      · refine OpRelX.plain rfl fun n L x w K hn hL hG hdep hK => ?_
        have h31 : x 31 = _ := (hdep 15 rfl).2 _ rfl
        have h43 : x 43 = _ := (hdep 27 rfl).2 _ rfl
        clear hdep
        simp only [h31, h43] at hK
        go_simp
        exact hK _ _ (hG.keep _ (by decide) (by decide) (Below.refl _ _)) (Below.refl _ _) rfl
      · refine OpRelX.plain rfl fun n L x w K hn hL hG hdep hK => ?_
        have h44 : x 44 = _ := (hdep 28 rfl).2 _ rfl
        clear hdep
        simp only [h44] at hK
        go_simp
        exact hK _ _ (hG.keep _ (by decide) (by decide) (Below.refl _ _)) (Below.refl _ _) rfl
      · refine OpRelX.guarded true ?_ (fun n L x w hG hdep => by have h : x 45 = _ := (hdep 29 rfl).2 _ rfl; simp [Region.wanted, yielded, h]) ?_
        · intro n L x w K hn hL hG hdep _ hK
          clear hdep
          go_simp
          refine (alive_any _).mono ?_
          rintro e w5 ⟨rfl, hb5⟩
          exact hK _ _ (hG.keep _ (by decide) (by decide) hb5) (hb5.mono hG.b.size) rfl
        · intro n L x w hn hL hG hdep h; cases h
      · refine OpRelX.plain rfl fun n L x w K hn hL hG hdep hK => ?_
        have h45 : x 45 = _ := (hdep 29 rfl).2 _ rfl
        have h46 : x 46 = _ := (hdep 30 rfl).2 _ rfl
        clear hdep
        simp only [h45, h46] at hK
        go_simp
        exact hK _ _ (hG.keep _ (by decide) (by decide) (Below.refl _ _)) (Below.refl _ _) rfl
      · refine OpRelX.plain rfl fun n L x w K hn hL hG hdep hK => ?_
        have h47 : x 47 = _ := (hdep 31 rfl).2 _ rfl
        clear hdep
        simp only [h47] at hK
        go_simp
        exact hK _ _ (hG.keep _ (by decide) (by decide) (Below.refl _ _)) (Below.refl _ _) rfl
    case hend =>
      intro n L x w hn hG hh
      have h2 : x 2 = _ := (hh 32 (by decide)).2 _ rfl
      have hb := hG.b
      clear hh hG
      simp only [h2]
      go_wp2_with fail
      go_ret
      exact ⟨rfl, HB.out.tr hb⟩
set_option maxRecDepth 100000 in
theorem FnGraphValid_lifted (os : Os) (started : os.Started) (H : Type) (enc : TypeId × Value → H) :
    ReturnsInHanded {} Try.checked os 5 .any (Rows.fnGraphValidSpec.pre6 enc Try.prog Try.f5 Rows.fnGraphValidRow.domain false) (Rows.fnGraphValidSpec.post enc Try.prog Try.f5 false true false false) := by
  refine returnsInHanded_of_change (C := Try.checked) tryOwn started (by kernel_rfl) Try.func5
    (ChangeSpec.witness6 (enc := enc) (C := Try.checked) false ⟨#[], #[.slice none 0 0], []⟩ 8 (by kernel_rfl) (by kernel_rfl) (by kernel_rfl) (by kernel_rfl)) ?_
  intro W base args ds gs before hval0 hW hcnd _
  have hval : ∀ (j : Nat) t v, Try.f5.params[j]? = some t → args[j]? = some v → Value.okWide Try.prog W .any base t v := hval0
  have hW' := hW
  obtain ⟨p, q, hA0, hV, rfl, hfz, hnd⟩ := hW
  have hA : DataW.TrodAll enc Try.prog W 0 (fun _ => true) true Try.f5.params.toList args.toList ds p := hA0
  rw [Try.params5] at hA hval
  obtain ⟨v0, vs0, d0, ds0, p0, q0, hargs, rfl, rfl, h0, r0⟩ := trodAll_cons hA
  obtain ⟨rfl, rfl, rfl⟩ := trodAll_nil r0
  obtain rfl : args = #[v0] := by cases args; simp_all
  obtain ⟨rfl, rfl⟩ := trodVars_none hV
  have k0 := h0
  have lt0 : ∀ x ∈ p0, x.block < W.heap.size := by obtain ⟨m, hm⟩ := k0; exact DataW.trod_lt m _ _ _ hm
  obtain ⟨c0, len0, cap0, rfl⟩ := okWide_slice Try.underlying35 (hval 0 35 v0 rfl rfl)
  obtain ⟨n0, x0, t0⟩ := trod_of rfl h0
  obtain ⟨xs0, w0, g0⟩ := trod_bytes Try.underlying35 Try.underlying5 (by kernel_rfl) t0
  clear hA0 hval0
  refine (FnGraphValid_walk W _ xs0 w0 g0).mono fun e W' ⟨he, bel⟩ => ?_
  subst he
  exact ⟨_, rfl, _, _, _, [], _, [], hW', trodAll_mk1 (shut_bool Try.underlying4 _), (trodAll_cons_mk (Below.trod tryLaidOut (by kernel_rfl) (of_decide_eq_true (by kernel_rfl)) k0 bel lt0) trodAll_mk0), rfl, bel.frame _, fun h => by cases h⟩

set_option maxHeartbeats 4000000 in
set_option maxRecDepth 100000 in
theorem FnGraphValid_holds : Rows.FnGraphValidSaid := by
  refine OpenClaim.holds_of_wide 5 Try.f5 rfl rfl rfl rfl rfl rfl rfl ⟨rfl, rfl, rfl, rfl, rfl⟩ rfl rfl rfl rfl rfl ?hfn Try.func5 ?closed ?hinst ?hwrap (fun os started H enc _ => FnGraphValid_lifted os started H enc)
  case hfn => as_aux_lemma => kernel_rfl
  case hinst => exact of_decide_eq_true (by as_aux_lemma => kernel_rfl)
  case hwrap => unfold Func.isWrapper; first | (rw [if_pos (by decide +kernel)]; kernel_rfl) | (rw [if_neg (by decide +kernel)]; exact ⟨rfl, rfl⟩)
  case closed =>
    simp only [joinedFacts, Bool.and_eq_true]
    repeat' apply And.intro
    all_goals first
      | with_reducible exact mayEnter_ok
      | (rewrite [liftsFinal_no]; as_aux_lemma => kernel_rfl)
      | (rewrite [make_cut]; as_aux_lemma => kernel_rfl)
      | as_aux_lemma => kernel_rfl
end Go.Proofs.Ytoolmknnmmecfaa
