/-
  If all edges have the weight 1, costs are hops: for every code: no condition.
-/
import Derived.Test.YtgdggkhdollieaaDoorArgs
import Derived.Test.YtgdggkhdollieaaDoorDrawAt
import Derived.Test.YtgdggkhdollieaaDoorSame
import Derived.Test.YtgdggkhdollieaaDoorBytes
import Derived.Test.YtgdggkhdollieaaDoorHops
import Derived.Test.YtgdggkhdollieaaDoorCostsF
import Derived.Test.YtgdggkhdollieaaDoorRelX
import Derived.Test.YtgdggkhdollieaaDoorFacts
import Derived.Test.YtgdggkhdollieaaDoorTab
import Derived.Test.YtgdggkhdollieaaDoorCards
import Derived.Test.YtgdggkhdollieaaDoorTie
import Derived.LaidMore
import Derived.OpenShut
import Derived.Stop.Joined
import Derived.SevenTiedAt
namespace Go.Proofs.YtgdggkhdollieaaDoor
open Go.ChangeShapes Go.WideShapes Go.ChangeAt Go.RowKit
set_option linter.unusedVariables false

def ones (ys : List Tri) : List Tri := ys.map fun e => (e.1, e.2.1, 1)
theorem ones_length (ys : List Tri) : (ones ys).length = ys.length := by simp [ones]
theorem ones_getD {ys : List Tri} {k : Nat} (hk : k < ys.length) : (ones ys).getD k triZ = ((ys.getD k triZ).1, (ys.getD k triZ).2.1, 1) := by
  simp [ones, List.getD_eq_getElem?_getD, hk]
theorem ones_take {ys : List Tri} {k : Nat} (hk : k < ys.length) {a b c : Int} (h : ys.getD k triZ = (a, b, c)) : ones (ys.take (k + 1)) = ones (ys.take k) ++ [(a, b, 1)] := by
  rw [triTake_snoc ys k hk, h]; simp [ones]
theorem ones_ok {g : GraphD} (h : GraphOk g) : GraphOk (g.1, ones g.2) := by
  obtain ⟨h1, h2, h3⟩ := h
  refine ⟨h1, by rw [ones_length]; exact h2, fun k hk => ?_⟩
  simp only [ones_length] at hk
  have e := h3 k hk
  unfold EdgeAt at e ⊢
  simp only
  rw [ones_getD hk]
  refine ⟨e.1, e.2.1, e.2.2.1, ⟨by show (0 : Int) ≤ 1; decide, by show (1 : Int) ≤ 20; decide⟩, fun h0 => ?_⟩
  rw [ones_getD (by omega)]
  have e5 := e.2.2.2.2 h0
  unfold Bef at e5 ⊢
  exact e5
theorem ones_hops (ys : List Tri) (D : List Int) : ∀ t, hopsTo (ones ys) D t = hopsTo ys D t
  | 0 => rfl
  | t + 1 => by
    rw [hopsTo, hopsTo, ones_hops ys D t, ones, List.foldl_map]
    rfl
theorem ones_same {g : GraphD} (hok : GraphOk g) (z : Int) : costsFrom (g.1, ones g.2) z = hopsFrom g z ∧ hopsFrom (g.1, ones g.2) z = hopsFrom g z := by
  have ho := ones_ok hok
  have hb : graphOk g = true := decide_eq_true hok
  have hb1 : graphOk (g.1, ones g.2) = true := decide_eq_true ho
  have h2 : hopsFrom (g.1, ones g.2) z = hopsFrom g z := by
    unfold hopsFrom
    rw [hb, hb1]
    simp only [ones_hops]
  refine ⟨?_, h2⟩
  by_cases hz : 0 ≤ z ∧ z < g.1
  · obtain ⟨n, hn⟩ := Int.eq_ofNat_of_zero_le hok.1.1
    obtain ⟨u, rfl⟩ := Int.eq_ofNat_of_zero_le hz.1
    have hu : u < n := by omega
    rw [← h2, costsFrom_yes hb1 hn hu, hopsFrom_yes hb1 hn hu]
    have hnn : (g.1, ones g.2).1.toNat = n := by simp only; omega
    have d1 : IsDist (costR (ones g.2)) n u _ := costs_dist hu fun e he => by
      obtain ⟨a, b, x, e1, e2, e3, e4, e5, e6, e7⟩ := costs_ends ho e he
      rw [hnn] at e4 e5
      exact ⟨a, b, x, e1, e2, e3, e4, e5, e6⟩
    have d2 : IsDist (hopR (nextP (ones g.2))) n u _ := hops_dist (f := nextP (ones g.2)) hu (fun e he => by have := next_ends (g := (g.1, ones g.2)) ho e he; rwa [hnn] at this) (next_edge (g := (g.1, ones g.2)))
    have er : costR (ones g.2) = hopR (nextP (ones g.2)) := by
      funext a b x
      apply propext
      constructor
      · rintro ⟨e, he, e1, e2, e3⟩
        have h1 : e.2.2 = 1 := by
          simp only [ones, List.mem_map] at he
          obtain ⟨y, -, rfl⟩ := he; rfl
        refine ⟨?_, by omega⟩
        simp only [nextP, List.any_eq_true, Bool.and_eq_true, decide_eq_true_eq]
        exact ⟨e, he, by omega, by omega⟩
      · rintro ⟨h1, h3⟩
        obtain ⟨e, he, e1, e2⟩ := next_edge (g := (g.1, ones g.2)) a b h1
        refine ⟨e, he, e1, e2, ?_⟩
        simp only [ones, List.mem_map] at he
        obtain ⟨y, -, rfl⟩ := he
        rw [h3]; rfl
    rw [er] at d1
    exact d1.unique d2
  · rw [costsFrom_no (g := (g.1, ones g.2)) (.inr hz), hopsFrom_no (.inr hz)]
theorem rd_of_graph {w : World} {p : Option Addr} {n c : Nat} {g : GraphD} (h : RdGraph w (.agg #[.int .i64 g.1, .slice p n c]) g) : Rd w 3 (.slice p n c) g.2.length (tris g.2) := by
  obtain ⟨v1, e1, h1⟩ := h
  have e2 : v1 = .slice p n c := by simpa using e1.symm
  rw [e2] at h1; exact h1
theorem two_row {w : World} {yb : Nat} {a b : Value} {e : TypeId} (h : w.heap[yb]? = some (.cells #[a, b] e (0, 0))) : w.ownsRow yb e 2 (.slice (some ⟨yb, 0, none⟩) 1 1) 1 [a, b] :=
  ⟨rfl, .inr ⟨yb, 1, _, rfl, Nat.le_refl _, h, Nat.le_refl _, by decide, rfl, rfl⟩⟩

set_option maxRecDepth 100000 in
set_option maxHeartbeats 16000000 in
theorem FnEqualCosts_walk (w : World) (va : Value) (bs : List Int) (hv : Rd w 1 va bs.length (bys bs)) (hx : ∀ x ∈ bs, 0 ≤ x ∧ x ≤ 255) (HT : TabW w) :
    Calls Tryd.prog 3 #[va] w fun e w' => e = .returned (.bool true) ∧ Below w.heap.size w w' := by
  have HDR := Lib.hid (DrawCostsFrom_any w va bs hv hx)
  have HTB := Lib.hid HT; clear HT
  obtain ⟨hlb, av, acap, rfl, hcap, hmc, hcell⟩ := hv
  clear hlb hcap hmc hcell hx
  by_cases hl : bs.length ≤ 1048576
  case neg =>
    have hl' : decide ((bs.length : Int) > 1048576) = true := by simp; omega
    go_enter Tryd.func3, Tryd.ntmps3
    go_wp2_with fail
    go_ret
    exact ⟨rfl, Below.refl _ _⟩
  case pos =>
  have hl' : decide ((bs.length : Int) > 1048576) = false := by simp; omega
  go_enter Tryd.func3, Tryd.ntmps3
  go_wp2_with fail
  refine HDR.out.mono ?_
  rintro e w1 ⟨p, c, g, z, rfl, hr, hlen, hgm, hz, hc, hb1⟩
  have hA : Below w1.heap.size w1 (w1.alloc (.cells #[.int .i64 g.1, .slice p g.2.length c] 25)) := (Below.refl _ _).alloc (Nat.le_refl _) _
  have HB0 := Lib.hid (hb1.tr hA); have HR := Lib.hid (hr.keep hA); have X := Lib.hid (heap_alloc_new w1 (.cells #[.int .i64 g.1, .slice p g.2.length c] 25))
  obtain ⟨xb, hxb⟩ : ∃ xb, xb = w1.heap.size := ⟨_, rfl⟩
  clear hA hb1 hr HDR hl'
  go_wp2_with fail
  rw [← hxb] at X ⊢
  clear hxb
  generalize (w1.alloc (.cells #[.int .i64 g.1, .slice p g.2.length c] 25)) = w2 at *
  have CIM := Lib.hid fun wx h => implCostsFrom_any wx (.agg #[.int .i64 g.1, .slice p g.2.length c]) g z h
  have CSP := Lib.hid fun wx h => specCostsFrom_any wx (.agg #[.int .i64 g.1, .slice p g.2.length c]) g z h
  generalize costsFrom g z = D at *
  refine wp_region_relA (fun x => { tmps := #[.slice av bs.length acap, x 1, x 2, .pointer (some ⟨xb, 0, none⟩), .int .i64 z, x 5, x 6, x 7, x 8, x 9, x 10, x 11, x 12, x 13, x 14, x 15, x 16, x 17, x 18, x 19, x 20, x 21, x 22, x 23, x 24, x 25, x 26, x 27, x 28, x 29, x 30, x 31, x 32, x 33, x 34, x 35, x 36, x 37, x 38, x 39, x 40, x 41, x 42, x 43, x 44, x 45, x 46, x 47, x 48, x 49, x 50, x 51, x 52, x 53, x 54, x 55, x 56, x 57, x 58, x 59, x 60, x 61, x 62, x 63, x 64, x 65, x 66, x 67, x 68, x 69, x 70], defers := [] })
    (fun _ _ wx => Below w2.heap.size w2 wx) (fun _ wx wy => Below wx.heap.size wx wy)
    (Tl [cst (.agg #[.int .i64 g.1, .slice p g.2.length c]), cst (.int .i64 z), (fun v wx => ∃ a c, v = .slice a D.length c ∧ Rd wx 1 v D.length (ints D)), cst (.agg #[.int .i64 g.1, .slice p g.2.length c]), cst (.int .i64 z), (fun v wx => ∃ a c, v = .slice a D.length c ∧ Rd wx 1 v D.length (ints D)), cst (.bool true), cst (.bool false)]) rfl
    (by kernel_rfl) (by kernel_rfl) (by kernel_rfl) (stab_Tl ?hst) (fun _ _ => Below.refl _ _) (Below.refl _ _).drew ?hput ?hop ?hend
  case hst =>
    simp only [List.mem_cons, List.not_mem_nil, or_false, forall_eq_or_imp, forall_eq]
    refine ⟨?_, ?_, ?_, ?_, ?_, ?_, ?_, ?_⟩
    all_goals first | exact stab_cst _ _ | exact stab_tru _ | exact fun _ _ _ hb h => (by obtain ⟨a, c, h1, h2⟩ := h; exact ⟨a, c, h1, h2.keep hb⟩)
  case hput =>
    refine ⟨?_, ?_, ?_, ?_, ?_, ?_, ?_, ?_, trivial⟩
    all_goals first | exact fun x v => rfl | exact trivial
  case hop =>
    refine ⟨?_, ?_, ?_, ?_, ?_, ?_, ?_, ?_, trivial⟩
    · refine OpRel.plain rfl fun n L x wx K hn hL hG hdep hK => ?_
      have hX := box_keep X.out hG; have z0 := box_cell hX 0 (.int .i64 g.1) rfl; have z1 := box_cell hX 1 (.slice p g.2.length c) rfl
      clear hdep; go_simp
      exact hK _ _ hG (Below.refl _ _) rfl
    · refine OpRel.plain rfl fun n L x wx K hn hL hG hdep hK => ?_
      clear hdep; go_simp
      exact hK _ _ hG (Below.refl _ _) rfl
    · refine OpRel.plain rfl fun n L x wx K hn hL hG hdep hK => ?_
      have h15 : x 15 = _ := (hdep 0 rfl).2 _ rfl
      have h16 : x 16 = _ := (hdep 1 rfl).2 _ rfl
      clear hdep
      simp only [h15, h16] at hK
      go_simp
      refine (CIM.out _ (HR.out.keep hG)).mono ?_
      rintro e w8 ⟨s, rfl, hs, hb⟩
      obtain ⟨a8, c8, rfl, -, -⟩ := Rd.form hs.rd
      exact hK _ _ (hG.tr hb) hb ⟨_, _, rfl, hs.rd⟩
    · refine OpRel.plain rfl fun n L x wx K hn hL hG hdep hK => ?_
      have hX := box_keep X.out hG; have z0 := box_cell hX 0 (.int .i64 g.1) rfl; have z1 := box_cell hX 1 (.slice p g.2.length c) rfl
      clear hdep; go_simp
      exact hK _ _ hG (Below.refl _ _) rfl
    · refine OpRel.plain rfl fun n L x wx K hn hL hG hdep hK => ?_
      clear hdep; go_simp
      exact hK _ _ hG (Below.refl _ _) rfl
    · refine OpRel.plain rfl fun n L x wx K hn hL hG hdep hK => ?_
      have h18 : x 18 = _ := (hdep 3 rfl).2 _ rfl
      have h19 : x 19 = _ := (hdep 4 rfl).2 _ rfl
      clear hdep
      simp only [h18, h19] at hK
      go_simp
      refine (CSP.out _ (HR.out.keep hG)).mono ?_
      rintro e w8 ⟨s, rfl, hs, hb⟩
      obtain ⟨a8, c8, rfl, -, -⟩ := Rd.form hs.rd
      exact hK _ _ (hG.tr hb) hb ⟨_, _, rfl, hs.rd⟩
    · refine OpRel.plain rfl fun n L x wx K hn hL hG hdep hK => ?_
      obtain ⟨a8, c8, h17, hr8⟩ := (hdep 2 rfl).2 _ rfl
      obtain ⟨a9, c9, h20, hr9⟩ := (hdep 5 rfl).2 _ rfl
      clear hdep
      simp only [h17, h20] at hK
      rw [h17] at hr8; rw [h20] at hr9
      go_simp
      refine (sameInts_same _ _ _ D hr8 hr9).mono ?_
      rintro e w8 ⟨rfl, hb⟩
      exact hK _ _ (hG.tr hb) hb rfl
    · refine OpRel.plain rfl fun n L x wx K hn hL hG hdep hK => ?_
      have h21 : x 21 = _ := (hdep 6 rfl).2 _ rfl
      clear hdep; simp only [h21] at hK; go_simp
      exact hK _ _ hG (Below.refl _ _) rfl
  case hend =>
    intro n' L xo wx _ hG hh
    have h22 : xo 22 = _ := (hh 7 (by decide)).2 _ rfl
    clear hh
    have HW := Lib.hid hG
    clear hG
    simp only [h22]
    have HB := Lib.hid (HB0.out.tr HW.out)
    replace HR := Lib.hid (HR.out.keep HW.out); replace X := Lib.hid (box_keep X.out HW.out)
    have k0 := box_cell X.out 0 (.int .i64 g.1) rfl; have k1 := box_cell X.out 1 (.slice p g.2.length c) rfl
    have HGV := Lib.hid (specGraphValid_any wx _ g HR.out)
    clear HW CIM CSP HB0 h22
    go_wp2_with fail
    cases hok : graphOk g
    · rw [hok] at HGV
      refine HGV.out.mono ?_
      rintro e w6 ⟨rfl, hb⟩
      replace HB := Lib.hid (HB.out.tr hb); clear hb k0 k1
      go_wp2_with fail
      refine (alive_any _).mono ?_
      rintro e w7 ⟨rfl, hb⟩
      replace HB := Lib.hid (HB.out.tr hb); clear hb
      go_wp2_with fail
      go_ret
      exact ⟨rfl, HB.out⟩
    · rw [hok] at HGV
      have hgo := graphOk_yes hok
      have hsm := ones_same hgo z
      have CO1 := Lib.hid fun wx vx h => implCostsFrom_any wx vx (g.1, ones g.2) z h
      have CO2 := Lib.hid fun wx vx h ht => implHopsFrom_any wx vx (g.1, ones g.2) z h ht
      have CO3 := Lib.hid fun wx vx h ht => implHopsFrom_any wx vx g z h ht
      rw [hsm.1] at CO1; rw [hsm.2] at CO2
      clear hsm hok hgo
      generalize hopsFrom g z = E at *
      refine HGV.out.mono ?_
      rintro e w7 ⟨rfl, hb⟩
      replace HB := Lib.hid (HB.out.tr hb); replace HR := Lib.hid (HR.out.keep hb); replace X := Lib.hid (box_keep X.out hb); clear hb HGV k0 k1
      have k0 := box_cell X.out 0 (.int .i64 g.1) rfl; have k1 := box_cell X.out 1 (.slice p g.2.length c) rfl
      have HRD := Lib.hid (rd_of_graph HR.out)
      have HTK : Hid (g.2.take g.2.length = g.2) := Lib.hid (List.take_of_length_le (Nat.le_refl _))
      have HST : Hid (∀ k a b c, k < g.2.length → g.2.getD k triZ = (a, b, c) → ones (g.2.take (k + 1)) = ones (g.2.take k) ++ [(a, b, 1)]) := Lib.hid fun k a b c hk h => ones_take hk h
      have HOL : Hid ((ones g.2).length = g.2.length) := Lib.hid (ones_length g.2)
      have hal0 : Below w7.heap.size w7 (w7.alloc (.cells #[.int .i64 g.1, .slice none 0 0] 25)) := (Below.refl _ _).alloc (Nat.le_refl _) _
      have HB0 := Lib.hid hal0
      have Y0 := Lib.hid (heap_alloc_new w7 (.cells #[.int .i64 g.1, .slice none 0 0] 25))
      have hxl := box_lt X.out
      obtain ⟨yb, hyb⟩ : ∃ yb, yb = w7.heap.size := ⟨_, rfl⟩
      have HYB := Lib.hid hyb
      have HO0 := Lib.hid (World.ownsRow_nil (w7.alloc (.cells #[.int .i64 g.1, .slice none 0 0] 25)) (yb + 1) 34 3)
      clear hal0
      go_wp2_with fail
      rw [← hyb] at Y0 hxl ⊢
      clear hyb k0 k1
      generalize (w7.alloc (.cells #[.int .i64 g.1, .slice none 0 0] 25)) = w8 at *
      generalize hgl : g.2.length = l at *
      clear hgl
      go_loopw [6] (fun i wr => ∃ (k : Nat) (vv : Value), k ≤ l ∧ i = .int .i64 k ∧ Hid (wr.heap[yb]? = some (.cells #[.int .i64 g.1, vv] 25 (0, 0))) ∧ Hid (wr.ownsRow (yb + 1) 34 3 vv k (tris (ones (g.2.take k)))) ∧ Hid (Below w7.heap.size w7 wr)) (fun i _ => l - (intOf i).toNat)
      case atStart => exact ⟨0, _, Nat.zero_le _, rfl, Y0, HO0, HB0⟩
      case round =>
        clear Y0 HO0 HB0
        obtain ⟨k, vv, hk, rfl, HY, HO, HBK⟩ := hrel
        have hX := box_keep X.out HBK.out
        have k0 := box_cell hX 0 (.int .i64 g.1) rfl; have k1 := box_cell hX 1 (.slice p l c) rfl
        by_cases hlt : k < l
        · obtain ⟨b1, o1, rfl, hb1, q0, q1, q2⟩ := (HRD.out.keep HBK.out).tri hlt
          obtain ⟨⟨y0, y1, y2⟩, hy⟩ : ∃ y, g.2.getD k triZ = y := ⟨_, rfl⟩
          rw [hy] at q0 q1 q2
          simp only at q0 q1 q2
          have HS1 := Lib.hid (HST.out k y0 y1 y2 hlt hy)
          obtain ⟨a0, c0, rfl, -, -⟩ := (Rd.of_own HO.out).form
          have hb1y : b1 < yb := by
            have h9 := (HRD.out.tri hlt)
            obtain ⟨b2, o2, he, hb2, -⟩ := h9
            simp only [Option.some.injEq, Addr.mk.injEq, and_true] at he
            rw [he.1, HYB.out]; exact hb2
          obtain ⟨wd, hwd⟩ : ∃ wd, wd = wr.drew := ⟨_, rfl⟩
          have HD : Hid (wd.heap[yb]? = some (.cells #[.int .i64 g.1, .slice a0 k c0] 25 (0, 0)) ∧ wd.ownsRow (yb + 1) 34 3 (.slice a0 k c0) k (tris (ones (g.2.take k))) ∧ Below w7.heap.size w7 wd ∧ wd.heap[xb]? = some (.cells #[.int .i64 g.1, .slice (some ⟨b1, o1, none⟩) l c] 25 (0, 0)) ∧ wd.cell? ⟨b1, o1 + k * 3, none⟩ = some (.int .i64 y0) ∧ wd.cell? ⟨b1, o1 + k * 3 + 1, none⟩ = some (.int .i64 y1)) := Lib.hid (by
            rw [hwd]
            exact ⟨HY.out, HO.out, HBK.out.drew, hX, q0, q1⟩)
          have HWD := Lib.hid hwd
          clear hwd hX hy q2
          obtain ⟨sz, hsz0⟩ : ∃ sz, sz = wd.heap.size := ⟨_, rfl⟩
          have hszd : wd.heap.size = sz := hsz0.symm
          have hal : Below wd.heap.size wd (wd.alloc (.cells #[.int .i64 y0, .int .i64 y1, .int .i64 1] 34)) := (Below.refl _ _).alloc (Nat.le_refl _) _
          have hoa := ownsRow_keep HD.out.2.1 hal
          have hya := two_row (box_keep HD.out.1 hal)
          have hba := HD.out.2.2.1.tr hal
          have hyl : yb < sz := by rw [hsz0]; exact box_lt HD.out.1
          have hszA : (wd.alloc (.cells #[.int .i64 y0, .int .i64 y1, .int .i64 1] 34)).heap.size = sz + 1 := by simp [hszd]
          have hcn : ∀ j u, [Value.int .i64 y0, .int .i64 y1, .int .i64 1][j]? = some u → (wd.alloc (.cells #[.int .i64 y0, .int .i64 y1, .int .i64 1] 34)).cell? ((⟨sz, 0, none⟩ : Addr).add j) = some u := by
            rw [← hszd]; exact cell_three_new _ _ _ _ _
          obtain ⟨i0, hi, hz0, hz1, hz2⟩ := info_parts infoEdge1
          obtain ⟨v9, w9, hr9, ho9, hg9, hn9, hb9⟩ := run_append_own_at (P := Tryd.prog) _ (yb + 1) 23 23 34 i0 (.agg #[.int .i64 0, .int .i64 0, .int .i64 0]) 3 24 Tryd.underlying23 hi hz0 hz1 hz2 rfl (by decide) _ k _ hoa ⟨sz, 0, none⟩ 1 1 [.int .i64 y0, .int .i64 y1, .int .i64 1] rfl hcn (by simp [Value.oneCell']) (by unfold maxLen; omega) (by omega) (by rw [hszA]; omega)
          have ho9' : w9.ownsRow (yb + 1) 34 3 v9 (k + 1) (tris (ones (g.2.take (k + 1)))) := by rw [HS1.out, tris_append]; exact ho9
          obtain ⟨a9, c9, rfl, -, -⟩ := (Rd.of_own ho9').form
          have hgy : ∀ q, q ≤ yb → some q ≠ (Value.slice a0 k c0).ownBlock := fun q hq e => by have := (hoa.lt _ e.symm).1; omega
          have hy9 := ownsRow_lift (lo2 := 0) hya (hg9.block yb (by rw [hszA]; omega) (hgy yb (Nat.le_refl _)))
          have hst := hy9.stored 1 (.slice a9 (k + 1) c9)
          simp only [List.set_cons_succ, List.set_cons_zero] at hst
          have hy10 : (w9.setCell ⟨yb, 1, none⟩ (.slice a9 (k + 1) c9)).heap[yb]? = some (.cells #[.int .i64 g.1, .slice a9 (k + 1) c9] 25 (0, 0)) := by
            have e1 := (hg9.block yb (by rw [hszA]; omega) (hgy yb (Nat.le_refl _))).trans (box_keep HD.out.1 hal)
            rw [heap_setCell_same _ _ _ _ _ _ e1]; rfl
          have HY10 := Lib.hid hy10
          have ho9w := ho9'
          have HO10 := Lib.hid (row_kept ho9w hst.2 (fun q hq e => by injection e with e; have := (ho9'.lt q hq).1; omega))
          have hb9' := hba.grown hg9 hba.size (fun q hq => by have := (hoa.lt _ hq).1; have := HYB.out; omega)
          have HB10 := Lib.hid (hb9'.grown hst.2 hb9'.size (fun q hq => by injection hq with hq; have := HYB.out; omega))
          have HC9 : Hid (w9.cell? ⟨yb, 1, none⟩ = some (.slice a0 k c0) ∧ w9.frozen? ⟨yb, 1, none⟩ = false) := Lib.hid ⟨by rw [hy9.cellAt 1 (by omega)]; rfl, hy9.frozenAt 1⟩
          have HCQ : Hid (∀ wx, (wx = wd ∨ wx = wd.alloc (.cells #[.int .i64 y0, .int .i64 y1, .int .i64 1] 34)) → wx.cell? ⟨yb, 1, none⟩ = some (.slice a0 k c0)) := Lib.hid fun wx hw => by
            rcases hw with rfl | rfl
            · exact box_cell HD.out.1 1 _ rfl
            · exact box_cell (box_keep HD.out.1 hal) 1 _ rfl
          have HPX : Hid (∀ wx, (wx = wd ∨ wx = wd.alloc (.cells #[.int .i64 y0, .int .i64 y1, .int .i64 1] 34) ∨ wx = w9 ∨ wx = w9.setCell ⟨yb, 1, none⟩ (.slice a9 (k + 1) c9)) → wx.cell? ⟨xb, 1, none⟩ = some (.slice (some ⟨b1, o1, none⟩) l c) ∧ wx.cell? ⟨b1, o1 + k * 3, none⟩ = some (.int .i64 y0) ∧ wx.cell? ⟨b1, o1 + k * 3 + 1, none⟩ = some (.int .i64 y1)) := Lib.hid fun wx hw => by
            have hB : Below yb wd wx := by
              rcases hw with e | e | e | e
              · rw [e]; exact Below.refl _ _
              · rw [e]; exact hal.mono (by omega)
              · rw [e]; exact (hal.mono (by omega)).trans ⟨hg9.os, hg9.tape, hg9.output, hg9.size, fun q hq => hg9.block q (by rw [hszA]; omega) (hgy q (by omega))⟩
              · rw [e]
                have h9 : Below yb wd w9 := (hal.mono (by omega)).trans ⟨hg9.os, hg9.tape, hg9.output, hg9.size, fun q hq => hg9.block q (by rw [hszA]; omega) (hgy q (by omega))⟩
                exact h9.trans ⟨hst.2.os, hst.2.tape, hst.2.output, hst.2.size, fun q hq => hst.2.block q (by have := h9.size; omega) (by intro e; injection e with e; omega)⟩
            exact ⟨(hB.cell (p := ⟨xb, 1, none⟩) hxl).trans (box_cell HD.out.2.2.2.1 1 _ rfl), (hB.cell (p := ⟨b1, o1 + k * 3, none⟩) hb1y).trans HD.out.2.2.2.2.1, (hB.cell (p := ⟨b1, o1 + k * 3 + 1, none⟩) hb1y).trans HD.out.2.2.2.2.2⟩
          have HR9 := Lib.hid hr9
          have HSZD := Lib.hid hszd
          clear hsz0 hszd hal hoa hya hba hszA hcn hi hz0 hz1 hz2 hr9 ho9 hg9 hn9 hb9 ho9' hgy hy9 hst hy10 ho9w hb9' HD HRD HR HY HO HBK CO1 CO2 CO3
          go_wp2_with fail
          clear k0 k1 q0 q1
          refine wp_region_relA (fun x => { tmps := #[.slice av bs.length acap, xo 1, xo 2, .pointer (some ⟨xb, 0, none⟩), .int .i64 z, .pointer (some ⟨yb, 0, none⟩), .int .i64 k, xo 7, xo 8, xo 9, xo 10, xo 11, xo 12, xo 13, xo 14, xo 15, xo 16, xo 17, xo 18, xo 19, xo 20, xo 21, .bool false, .agg #[.int .i64 g.1, .slice (some ⟨b1, o1, none⟩) l c], .bool true, .bool false, xo 26, .pointer (some ⟨xb, 0, none⟩), .int .i64 g.1, .agg #[.int .i64 g.1, .slice none 0 0], x 30, x 31, x 32, x 33, x 34, x 35, x 36, x 37, x 38, x 39, x 40, x 41, x 42, x 43, x 44, x 45, x 46, x 47, x 48, x 49, x 50, x 51, x 52, x 53, x 54, xo 55, xo 56, xo 57, xo 58, xo 59, xo 60, xo 61, xo 62, xo 63, xo 64, xo 65, xo 66, xo 67, xo 68, xo 69, xo 70], defers := [] })
            (fun _ L wx => Stg 15 16 18 1 wd (wd.alloc (.cells #[.int .i64 y0, .int .i64 y1, .int .i64 1] 34)) w9 (w9.setCell ⟨yb, 1, none⟩ (.slice a9 (k + 1) c9)) L wx) (fun _ _ _ => True)
            (Tl [cst (.pointer (some ⟨yb, 1, none⟩)), cst (.slice a0 k c0), cst (.pointer (some ⟨xb, 1, none⟩)), cst (.slice (some ⟨b1, o1, none⟩) l c), cst (.int .i64 k), cst (.pointer (some ⟨b1, o1 + k * 3, none⟩)), cst (.pointer (some ⟨b1, o1 + k * 3, none⟩)), cst (.int .i64 y0), cst (.pointer (some ⟨xb, 1, none⟩)), cst (.slice (some ⟨b1, o1, none⟩) l c), cst (.int .i64 k), cst (.pointer (some ⟨b1, o1 + k * 3, none⟩)), cst (.pointer (some ⟨b1, o1 + k * 3 + 1, none⟩)), cst (.int .i64 y1), cst (.agg #[.int .i64 y0, .int .i64 y1, .int .i64 1]), cst (.slice (some ⟨sz, 0, none⟩) 1 1), cst (.slice a9 (k + 1) c9), cst (.pointer (some ⟨yb, 1, none⟩)), tru]) rfl
            (by kernel_rfl) (by kernel_rfl) (by kernel_rfl) (stab_Tl ?hst) (fun _ _ => trivial) (Stg.start2 HWD.out.symm) ?hput ?hop ?hend
          case hst =>
            simp only [List.mem_cons, List.not_mem_nil, or_false, forall_eq_or_imp, forall_eq]
            refine ⟨?_, ?_, ?_, ?_, ?_, ?_, ?_, ?_, ?_, ?_, ?_, ?_, ?_, ?_, ?_, ?_, ?_, ?_, ?_⟩
            all_goals first | exact stab_cst _ _ | exact stab_tru _
          case hput =>
            refine ⟨?_, ?_, ?_, ?_, ?_, ?_, ?_, ?_, ?_, ?_, ?_, ?_, ?_, ?_, ?_, ?_, ?_, ?_, ?_, trivial⟩
            all_goals first | exact fun x v => rfl | exact trivial
          case hop =>
            refine ⟨?_, ?_, ?_, ?_, ?_, ?_, ?_, ?_, ?_, ?_, ?_, ?_, ?_, ?_, ?_, ?_, ?_, ?_, ?_, trivial⟩
            · refine OpRel.plain rfl fun n L x wx K hn hL hG hdep hK => ?_
              clear hdep; go_simp
              exact hK _ _ (hG.other (by decide)) trivial rfl
            · refine OpRel.plain rfl fun n L x wx K hn hL hG hdep hK => ?_
              have h37 : x 37 = _ := (hdep 0 rfl).2 _ rfl
              have k0 := HCQ.out wx (hG.early hL)
              clear hdep; simp only [h37] at hK; go_simp
              exact hK _ _ (hG.other (by decide)) trivial rfl
            · refine OpRel.plain rfl fun n L x wx K hn hL hG hdep hK => ?_
              clear hdep; go_simp
              exact hK _ _ (hG.other (by decide)) trivial rfl
            · refine OpRel.plain rfl fun n L x wx K hn hL hG hdep hK => ?_
              have h39 : x 39 = _ := (hdep 2 rfl).2 _ rfl
              obtain ⟨z0, z1, z2⟩ := HPX.out wx hG.world
              clear hdep; simp only [h39] at hK; go_simp
              exact hK _ _ (hG.other (by decide)) trivial rfl
            · refine OpRel.plain rfl fun n L x wx K hn hL hG hdep hK => ?_
              clear hdep; go_simp
              exact hK _ _ (hG.other (by decide)) trivial rfl
            · refine OpRel.plain rfl fun n L x wx K hn hL hG hdep hK => ?_
              have h40 : x 40 = _ := (hdep 3 rfl).2 _ rfl
              have h41 : x 41 = _ := (hdep 4 rfl).2 _ rfl
              clear hdep; simp only [h40, h41] at hK; go_simp
              exact hK _ _ (hG.other (by decide)) trivial rfl
            · refine OpRel.plain rfl fun n L x wx K hn hL hG hdep hK => ?_
              have h42 : x 42 = _ := (hdep 5 rfl).2 _ rfl
              clear hdep; simp only [h42] at hK; go_simp
              exact hK _ _ (hG.other (by decide)) trivial rfl
            · refine OpRel.plain rfl fun n L x wx K hn hL hG hdep hK => ?_
              have h43 : x 43 = _ := (hdep 6 rfl).2 _ rfl
              obtain ⟨z0, z1, z2⟩ := HPX.out wx hG.world
              clear hdep; simp only [h43] at hK; go_simp
              exact hK _ _ (hG.other (by decide)) trivial rfl
            · refine OpRel.plain rfl fun n L x wx K hn hL hG hdep hK => ?_
              clear hdep; go_simp
              exact hK _ _ (hG.other (by decide)) trivial rfl
            · refine OpRel.plain rfl fun n L x wx K hn hL hG hdep hK => ?_
              have h45 : x 45 = _ := (hdep 8 rfl).2 _ rfl
              obtain ⟨z0, z1, z2⟩ := HPX.out wx hG.world
              clear hdep; simp only [h45] at hK; go_simp
              exact hK _ _ (hG.other (by decide)) trivial rfl
            · refine OpRel.plain rfl fun n L x wx K hn hL hG hdep hK => ?_
              clear hdep; go_simp
              exact hK _ _ (hG.other (by decide)) trivial rfl
            · refine OpRel.plain rfl fun n L x wx K hn hL hG hdep hK => ?_
              have h46 : x 46 = _ := (hdep 9 rfl).2 _ rfl
              have h47 : x 47 = _ := (hdep 10 rfl).2 _ rfl
              clear hdep; simp only [h46, h47] at hK; go_simp
              exact hK _ _ (hG.other (by decide)) trivial rfl
            · refine OpRel.plain rfl fun n L x wx K hn hL hG hdep hK => ?_
              have h48 : x 48 = _ := (hdep 11 rfl).2 _ rfl
              clear hdep; simp only [h48] at hK; go_simp
              exact hK _ _ (hG.other (by decide)) trivial rfl
            · refine OpRel.plain rfl fun n L x wx K hn hL hG hdep hK => ?_
              have h49 : x 49 = _ := (hdep 12 rfl).2 _ rfl
              obtain ⟨z0, z1, z2⟩ := HPX.out wx hG.world
              clear hdep; simp only [h49] at hK; go_simp
              exact hK _ _ (hG.other (by decide)) trivial rfl
            · refine OpRel.plain rfl fun n L x wx K hn hL hG hdep hK => ?_
              have h44 : x 44 = _ := (hdep 7 rfl).2 _ rfl
              have h50 : x 50 = _ := (hdep 13 rfl).2 _ rfl
              clear hdep; simp only [h44, h50] at hK; go_simp
              exact hK _ _ (hG.other (by decide)) trivial rfl
            · refine OpRel.plain rfl fun n L x wx K hn hL hG hdep hK => ?_
              have h51 : x 51 = _ := (hdep 14 rfl).2 _ rfl
              obtain ⟨hw, hS⟩ := hG.at_a hL (by decide)
              subst hw
              have hsz := HSZD.out
              clear hdep; simp only [h51] at hK; go_simp
              exact hK _ _ hS trivial rfl
            · refine OpRel.plain rfl fun n L x wx K hn hL hG hdep hK => ?_
              have h38 : x 38 = .slice a0 k c0 := (hdep 1 rfl).2 _ rfl
              have h52 : x 52 = .slice (some ⟨sz, 0, none⟩) 1 1 := (hdep 15 rfl).2 _ rfl
              have l1 := (hdep 1 rfl).1; have l15 := (hdep 15 rfl).1
              obtain ⟨hw, hS⟩ := hG.at_b hL l15 l1 (by decide)
              subst hw
              clear hdep
              exact wp_append_run _ _ 23 rfl (.slice a0 k c0) (.slice (some ⟨sz, 0, none⟩) 1 1) _ h38 h52 HR9.out (hK _ _ hS trivial rfl)
            · refine OpRel.plain rfl fun n L x wx K hn hL hG hdep hK => ?_
              clear hdep; go_simp
              exact hK _ _ (hG.other (by decide)) trivial rfl
            · refine OpRel.plain rfl fun n L x wx K hn hL hG hdep hK => ?_
              have h54 : x 54 = _ := (hdep 17 rfl).2 _ rfl
              have h53 : x 53 = _ := (hdep 16 rfl).2 _ rfl
              have l16 := (hdep 16 rfl).1
              obtain ⟨hw, hS⟩ := hG.at_c hL l16 (by decide)
              subst hw
              obtain ⟨k0, f0⟩ := HC9.out
              clear hdep; simp only [h54, h53] at hK; go_simp
              exact hK undef _ hS trivial trivial
          case hend =>
            intro n' L x wx _ hG hh
            have hwe := hG.end (hh 18 (by decide)).1
            subst hwe
            clear hh hG
            go_wp2_with fail
            go_roundw
            case rel => exact ⟨k + 1, _, by omega, by go_num, HY10, HO10, HB10⟩
            case measure => simp [intOf]; omega
        · obtain rfl : k = l := by omega
          obtain ⟨a1, c1, rfl, -, -⟩ := (Rd.of_own HO.out).form
          have ho9 := Rd.of_own HO.out
          rw [HTK.out] at ho9
          have HYG : Hid (RdGraph wr (.agg #[.int .i64 g.1, .slice a1 k c1]) (g.1, ones g.2)) := Lib.hid ⟨_, rfl, by show Rd wr 3 _ (ones g.2).length _; rw [HOL.out]; exact ho9⟩
          replace HR := Lib.hid (HR.out.keep HBK.out)
          replace X := Lib.hid (box_keep X.out HBK.out)
          replace HB := Lib.hid (HB.out.tr HBK.out)
          have HT9 := Lib.hid (HTB.out.keep HB.out)
          clear ho9 HRD HST HBK HTK hX HO
          go_wp2_with fail
          clear k0 k1
          generalize hw8 : wr = w9 at *
          clear hw8
          refine wp_region_relxA (fun x => { tmps := #[x 0, x 1, x 2, .pointer (some ⟨xb, 0, none⟩), .int .i64 z, .pointer (some ⟨yb, 0, none⟩), x 6, x 7, x 8, x 9, x 10, x 11, x 12, x 13, x 14, x 15, x 16, x 17, x 18, x 19, x 20, x 21, x 22, x 23, x 24, x 25, x 26, x 27, x 28, x 29, x 30, x 31, x 32, x 33, x 34, x 35, x 36, x 37, x 38, x 39, x 40, x 41, x 42, x 43, x 44, x 45, x 46, x 47, x 48, x 49, x 50, x 51, x 52, x 53, x 54, x 55, x 56, x 57, x 58, x 59, x 60, x 61, x 62, x 63, x 64, x 65, x 66, x 67, x 68, x 69, x 70], defers := [] })
            (fun _ _ _ wx => Below w9.heap.size w9 wx) (fun _ wx wy => Below wx.heap.size wx wy)
            (Tl [cst (.agg #[.int .i64 g.1, .slice a1 k c1]), cst (.int .i64 z), (fun v wx => ∃ a c, v = .slice a E.length c ∧ Rd wx 1 v E.length (ints E)), cst (.agg #[.int .i64 g.1, .slice a1 k c1]), cst (.int .i64 z), (fun v wx => ∃ a c, v = .slice a E.length c ∧ Rd wx 1 v E.length (ints E)), cst (.bool true), cst (.bool true), cst (.agg #[.int .i64 g.1, .slice a1 k c1]), cst (.int .i64 z), (fun v wx => ∃ a c, v = .slice a E.length c ∧ Rd wx 1 v E.length (ints E)), cst (.agg #[.int .i64 g.1, .slice p k c]), cst (.int .i64 z), (fun v wx => ∃ a c, v = .slice a E.length c ∧ Rd wx 1 v E.length (ints E)), cst (.bool true), cst (.bool true), cst (.bool true)]) rfl
            (by kernel_rfl) (by kernel_rfl) (by kernel_rfl) (stab_Tl ?hst) (fun _ _ => Below.refl _ _) (Below.refl _ _).drew ?hput ?hop ?hend
          case hst =>
            simp only [List.mem_cons, List.not_mem_nil, or_false, forall_eq_or_imp, forall_eq]
            refine ⟨?_, ?_, ?_, ?_, ?_, ?_, ?_, ?_, ?_, ?_, ?_, ?_, ?_, ?_, ?_, ?_, ?_⟩
            all_goals first | exact stab_cst _ _ | exact stab_tru _ | exact fun _ _ _ hb h => (by obtain ⟨a, c, h1, h2⟩ := h; exact ⟨a, c, h1, h2.keep hb⟩)
          case hput =>
            refine ⟨?_, ?_, ?_, ?_, ?_, ?_, ?_, ?_, ?_, ?_, ?_, ?_, ?_, ?_, ?_, ?_, ?_, trivial⟩
            all_goals first | exact fun x v => rfl | exact trivial
          case hop =>
            refine ⟨?_, ?_, ?_, ?_, ?_, ?_, ?_, ?_, ?_, ?_, ?_, ?_, ?_, ?_, ?_, ?_, ?_, trivial⟩
            · refine OpRelX.plain rfl fun n L x wx K hn hL hG hdep hK => ?_
              have hY := box_keep HY.out hG; have z0 := box_cell hY 0 (.int .i64 g.1) rfl; have z1 := box_cell hY 1 (.slice a1 k c1) rfl
              clear hdep
              go_simp
              exact hK _ _ hG (Below.refl _ _) rfl
            · refine OpRelX.plain rfl fun n L x wx K hn hL hG hdep hK => ?_
              clear hdep
              go_simp
              exact hK _ _ hG (Below.refl _ _) rfl
            · refine OpRelX.plain rfl fun n L x wx K hn hL hG hdep hK => ?_
              have h55 : x 55 = _ := (hdep 0 rfl).2 _ rfl
              have h56 : x 56 = _ := (hdep 1 rfl).2 _ rfl
              clear hdep
              simp only [h55, h56] at hK
              go_simp
              refine (CO1.out _ _ (HYG.out.keep hG)).mono ?_
              rintro e w8 ⟨s, rfl, hs, hb⟩
              obtain ⟨a8, c8, rfl, -, -⟩ := Rd.form hs.rd
              exact hK _ _ (hG.tr hb) hb ⟨_, _, rfl, hs.rd⟩
            · refine OpRelX.plain rfl fun n L x wx K hn hL hG hdep hK => ?_
              have hY := box_keep HY.out hG; have z0 := box_cell hY 0 (.int .i64 g.1) rfl; have z1 := box_cell hY 1 (.slice a1 k c1) rfl
              clear hdep
              go_simp
              exact hK _ _ hG (Below.refl _ _) rfl
            · refine OpRelX.plain rfl fun n L x wx K hn hL hG hdep hK => ?_
              clear hdep
              go_simp
              exact hK _ _ hG (Below.refl _ _) rfl
            · refine OpRelX.plain rfl fun n L x wx K hn hL hG hdep hK => ?_
              have h58 : x 58 = _ := (hdep 3 rfl).2 _ rfl
              have h59 : x 59 = _ := (hdep 4 rfl).2 _ rfl
              clear hdep
              simp only [h58, h59] at hK
              go_simp
              refine (CO2.out _ _ (HYG.out.keep hG) (HT9.out.keep hG)).mono ?_
              rintro e w8 ⟨s, rfl, hs, hb⟩
              obtain ⟨a8, c8, rfl, -, -⟩ := Rd.form hs.rd
              exact hK _ _ (hG.tr hb) hb ⟨_, _, rfl, hs.rd⟩
            · refine OpRelX.plain rfl fun n L x wx K hn hL hG hdep hK => ?_
              obtain ⟨a8, c8, h57, hr8⟩ := (hdep 2 rfl).2 _ rfl
              obtain ⟨a9, c9, h60, hr9⟩ := (hdep 5 rfl).2 _ rfl
              clear hdep
              simp only [h57, h60] at hK
              rw [h57] at hr8; rw [h60] at hr9
              go_simp
              refine (sameInts_same _ _ _ E hr8 hr9).mono ?_
              rintro e w8 ⟨rfl, hb⟩
              exact hK _ _ (hG.tr hb) hb rfl
            · refine OpRelX.plain rfl fun n L x wx K hn hL hG hdep hK => ?_
              have h61 : x 61 = _ := (hdep 6 rfl).2 _ rfl
              clear hdep
              simp only [h61] at hK
              go_simp
              exact hK _ _ hG (Below.refl _ _) rfl
            · refine OpRelX.guarded true ?_ (fun n L x wx hG hdep => by have h : x 62 = _ := (hdep 7 rfl).2 _ rfl; simp [Region.wanted, yielded, h]) ?_
              · intro n L x wx K hn hL hG hdep _ hK
                have hY := box_keep HY.out hG; have z0 := box_cell hY 0 (.int .i64 g.1) rfl; have z1 := box_cell hY 1 (.slice a1 k c1) rfl
                clear hdep
                go_simp
                exact hK _ _ hG (Below.refl _ _) rfl
              · intro n L x wx hn hL hG hdep h; cases h
            · refine OpRelX.guarded true ?_ (fun n L x wx hG hdep => by have h : x 62 = _ := (hdep 7 rfl).2 _ rfl; simp [Region.wanted, yielded, h]) ?_
              · intro n L x wx K hn hL hG hdep _ hK
                clear hdep
                go_simp
                exact hK _ _ hG (Below.refl _ _) rfl
              · intro n L x wx hn hL hG hdep h; cases h
            · refine OpRelX.guarded true ?_ (fun n L x wx hG hdep => by have h : x 62 = _ := (hdep 7 rfl).2 _ rfl; simp [Region.wanted, yielded, h]) ?_
              · intro n L x wx K hn hL hG hdep _ hK
                have h63 : x 63 = _ := (hdep 8 rfl).2 _ rfl
                have h64 : x 64 = _ := (hdep 9 rfl).2 _ rfl
                clear hdep
                simp only [h63, h64] at hK
                go_simp
                refine (CO2.out _ _ (HYG.out.keep hG) (HT9.out.keep hG)).mono ?_
                rintro e w8 ⟨s, rfl, hs, hb⟩
                obtain ⟨a8, c8, rfl, -, -⟩ := Rd.form hs.rd
                exact hK _ _ (hG.tr hb) hb ⟨_, _, rfl, hs.rd⟩
              · intro n L x wx hn hL hG hdep h; cases h
            · refine OpRelX.guarded true ?_ (fun n L x wx hG hdep => by have h : x 62 = _ := (hdep 7 rfl).2 _ rfl; simp [Region.wanted, yielded, h]) ?_
              · intro n L x wx K hn hL hG hdep _ hK
                have hX := box_keep X.out hG; have z0 := box_cell hX 0 (.int .i64 g.1) rfl; have z1 := box_cell hX 1 (.slice p k c) rfl
                clear hdep
                go_simp
                exact hK _ _ hG (Below.refl _ _) rfl
              · intro n L x wx hn hL hG hdep h; cases h
            · refine OpRelX.guarded true ?_ (fun n L x wx hG hdep => by have h : x 62 = _ := (hdep 7 rfl).2 _ rfl; simp [Region.wanted, yielded, h]) ?_
              · intro n L x wx K hn hL hG hdep _ hK
                clear hdep
                go_simp
                exact hK _ _ hG (Below.refl _ _) rfl
              · intro n L x wx hn hL hG hdep h; cases h
            · refine OpRelX.guarded true ?_ (fun n L x wx hG hdep => by have h : x 62 = _ := (hdep 7 rfl).2 _ rfl; simp [Region.wanted, yielded, h]) ?_
              · intro n L x wx K hn hL hG hdep _ hK
                have h66 : x 66 = _ := (hdep 11 rfl).2 _ rfl
                have h67 : x 67 = _ := (hdep 12 rfl).2 _ rfl
                clear hdep
                simp only [h66, h67] at hK
                go_simp
                refine (CO3.out _ _ (HR.out.keep hG) (HT9.out.keep hG)).mono ?_
                rintro e w8 ⟨s, rfl, hs, hb⟩
                obtain ⟨a8, c8, rfl, -, -⟩ := Rd.form hs.rd
                exact hK _ _ (hG.tr hb) hb ⟨_, _, rfl, hs.rd⟩
              · intro n L x wx hn hL hG hdep h; cases h
            · refine OpRelX.guarded true ?_ (fun n L x wx hG hdep => by have h : x 62 = _ := (hdep 7 rfl).2 _ rfl; simp [Region.wanted, yielded, h]) ?_
              · intro n L x wx K hn hL hG hdep _ hK
                obtain ⟨a8, c8, h65, hr8⟩ := (hdep 10 rfl).2 _ rfl
                obtain ⟨a9, c9, h68, hr9⟩ := (hdep 13 rfl).2 _ rfl
                clear hdep
                simp only [h65, h68] at hK
                rw [h65] at hr8; rw [h68] at hr9
                go_simp
                refine (sameInts_same _ _ _ E hr8 hr9).mono ?_
                rintro e w8 ⟨rfl, hb⟩
                exact hK _ _ (hG.tr hb) hb rfl
              · intro n L x wx hn hL hG hdep h; cases h
            · refine OpRelX.plain rfl fun n L x wx K hn hL hG hdep hK => ?_
              have h62 : x 62 = _ := (hdep 7 rfl).2 _ rfl
              have h69 : x 69 = _ := (hdep 14 rfl).2 _ rfl
              clear hdep
              simp only [h62, h69] at hK
              go_simp
              exact hK _ _ hG (Below.refl _ _) rfl
            · refine OpRelX.plain rfl fun n L x wx K hn hL hG hdep hK => ?_
              have h70 : x 70 = _ := (hdep 15 rfl).2 _ rfl
              clear hdep
              simp only [h70] at hK
              go_simp
              exact hK _ _ hG (Below.refl _ _) rfl
          case hend =>
            intro n' L x' wx _ hG hh
            have h2 : x' 2 = _ := (hh 16 (by decide)).2 _ rfl
            clear hh
            have HW9 := Lib.hid (HB.out.tr hG)
            clear hG
            simp only [h2]
            go_wp2_with fail
            go_ret
            exact ⟨rfl, HW9.out⟩
set_option maxRecDepth 100000 in
theorem FnEqualCosts_met (os : Os) (args : Array Value) : laidMetH Tryd.prog [("math/bits.deBruijn32tab", Rows.laid_math_bits_deBruijn32tab)] ((World.doorLaid Tryd.prog 400 os).forCall (fun _ _ => 0) ⟨#[], args, []⟩).memory :=
  laidMetH_of_parts3 (fuel := 8) (laidMet_of_run' 8 (by kernel_rfl) (by kernel_rfl)) (by kernel_rfl) (by kernel_rfl)
set_option maxRecDepth 100000 in
theorem FnEqualCosts_lifted (os : Os) (started : os.Started) (H : Type) (enc : TypeId × Value → H) :
    ReturnsInHanded {} Tryd.checked os 3 .any (fun w args => (Rows.fnEqualCostsSpec.pre enc Tryd.prog Tryd.f3 [] false w args ∧ laidMetH Tryd.prog [("math/bits.deBruijn32tab", Rows.laid_math_bits_deBruijn32tab)] w) ∧ sizedMet enc Tryd.prog Tryd.f3 (OpenSpec.ofChange Rows.fnEqualCostsSpec) false w args)
      (Rows.fnEqualCostsSpec.post enc Tryd.prog Tryd.f3 false true false false) := by
  refine returnsInHanded_of_change_and (C := Tryd.checked) (X := fun w _ => laidMetH Tryd.prog [("math/bits.deBruijn32tab", Rows.laid_math_bits_deBruijn32tab)] w) (fun _ _ _ hh h => h.of_heap hh) tryOwn started (by kernel_rfl) Tryd.func3
    (ChangeSpec.witness_shaped (enc := enc) (C := Tryd.checked) (os := os) (X := fun w _ => laidMetH Tryd.prog [("math/bits.deBruijn32tab", Rows.laid_math_bits_deBruijn32tab)] w) false (World.doorLaid Tryd.prog 400 os) #[.slice none 0 0] 8 rfl (World.shaped_of_RefB (by kernel_rfl) (by kernel_rfl)) (by kernel_rfl) (by kernel_rfl) (by kernel_rfl) (FnEqualCosts_met os _)) ?_
  intro W base args ds gs before hval0 hW _ _ hL _
  have hval : ∀ (j : Nat) t v, Tryd.f3.params[j]? = some t → args[j]? = some v → Value.okWide Tryd.prog W .any base t v := hval0
  have hW' := hW
  obtain ⟨p, q, hA0, hV, rfl, hfz, hnd⟩ := hW
  have hA : DataW.TrodAll enc Tryd.prog W 0 (fun _ => true) true Tryd.f3.params.toList args.toList ds p := hA0
  rw [Tryd.params3] at hA hval
  obtain ⟨v0, vs0, d0, ds0, p0, q0, hargs, rfl, rfl, h0, r0⟩ := trodAll_cons hA
  obtain ⟨rfl, rfl, rfl⟩ := trodAll_nil r0
  obtain rfl : args = #[v0] := by cases args; simp_all
  obtain ⟨rfl, rfl⟩ := trodVars_none hV
  have k0 := h0
  have lt0 : ∀ x ∈ p0, x.block < W.heap.size := by obtain ⟨m, hm⟩ := k0; exact DataW.trod_lt m _ _ _ hm
  obtain ⟨c0, len0, cap0, rfl⟩ := okWide_slice Tryd.underlying22 (hval 0 22 v0 rfl rfl)
  obtain ⟨n0, x0, t0⟩ := trod_of rfl h0
  obtain ⟨xs0, w0, g0⟩ := trod_bytes Tryd.underlying22 Tryd.underlying5 (by kernel_rfl) t0
  clear hA0 hval0
  refine (FnEqualCosts_walk W _ xs0 w0 g0 (tab_of_laid hL)).mono fun e W' ⟨he, bel⟩ => ?_
  subst he
  exact ⟨_, rfl, _, _, _, [], _, [], hW', trodAll_mk1 (shut_bool Tryd.underlying4 _), (trodAll_cons_mk (Below.trod tryLaidOut (by kernel_rfl) (of_decide_eq_true (by kernel_rfl)) k0 bel lt0) trodAll_mk0), rfl, bel.frame _, fun h => by cases h⟩

set_option maxHeartbeats 4000000 in
set_option maxRecDepth 100000 in
theorem FnEqualCosts_holds : Rows.FnEqualCostsSaid := by
  refine OpenClaim.holds_of_wide 3 Tryd.f3 rfl rfl rfl rfl rfl rfl rfl ⟨rfl, rfl, rfl, rfl, rfl⟩ rfl rfl rfl rfl rfl ?hfn Tryd.func3 ?closed ?hinst ?hwrap (fun os started H enc _ => FnEqualCosts_lifted os started H enc)
  case hfn => as_aux_lemma => kernel_rfl
  case hinst => exact of_decide_eq_true (by as_aux_lemma => kernel_rfl)
  case hwrap => unfold Func.isWrapper; first | (rw [if_pos (by decide +kernel)]; kernel_rfl) | (rw [if_neg (by decide +kernel)]; exact ⟨rfl, rfl⟩)
  case closed =>
    simp only [joinedFacts, Bool.and_eq_true]
    repeat' apply And.intro
    all_goals first
      | with_reducible exact mayEnter_ok
      | (rewrite [liftsFinal_no]; as_aux_lemma => kernel_rfl)
      | (rewrite [make_cut]; as_aux_lemma => kernel_rfl)
      | as_aux_lemma => kernel_rfl

set_option maxRecDepth 100000 in
theorem FnEqualCosts_card : Rows.FnEqualCostsCardSaid := by
  refine Claim7.holds_tied_plain_at .later [] [.data] true (true, "5f4b6f795264f639d9f32d3a5e8b10e781ce80fb528d4b446c7ef981035a3e16") true
    FnEqualCosts_holds (fun _ h => by cases h) (by kernel_rfl) (fun _ h => by cases h) fnEqualCosts_row_tie rfl ⟨rfl, rfl⟩ (by kernel_rfl) rfl ?_ (by kernel_rfl)
  intro f fn hf hfn
  obtain rfl : f = 3 := Option.some.inj ((show Tryd.prog.funcNamed "loop.example/graphcluster/laws.FnEqualCosts" = some 3 by kernel_rfl).symm.trans hf) |>.symm
  obtain rfl : fn = Tryd.f3 := (Option.some.inj (Tryd.func3.symm.trans hfn)).symm
  refine ⟨by kernel_rfl, fun j t ht => ?_⟩
  rw [Tryd.params3] at ht
  have hm : t ∈ [22] := by simpa using Array.mem_of_getElem? ht
  have hall : ([22].all fun u => !Tryd.prog.wantsStandIn u) = true := by kernel_rfl
  exact (show Tryd.prog.wantsStandIn t = false by simpa using List.all_eq_true.1 hall t hm)
end Go.Proofs.YtgdggkhdollieaaDoor
