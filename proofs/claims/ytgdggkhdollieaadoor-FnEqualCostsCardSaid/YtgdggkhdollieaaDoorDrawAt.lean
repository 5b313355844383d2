/-
  A graph and a vertex that are drawn.
-/
import Derived.Test.YtgdggkhdollieaaDoorDrawN
namespace Go.Proofs.YtgdggkhdollieaaDoor
open Go.RowKit
set_option linter.unusedVariables false

set_option maxRecDepth 100000 in
set_option maxHeartbeats 8000000 in
theorem l20At_any (W : World) (sv : Value) (bs : List Int) (r : Nat) (lim : Int) (w : World) (h : Drw W sv bs r lim w) (hl : lim ≤ 1000) :
    Calls Tryd.prog 11 #[.pointer (some ⟨r, 0, none⟩)] w fun e w' => ∃ v g z, e = .returned (.tuple #[v, .int .i64 z]) ∧ OwGraph w.heap.size w'.heap.size w' v g ∧ g.2.length ≤ 20 ∧ (-1 ≤ g.1 ∧ g.1 ≤ 17) ∧ (-100 ≤ z ∧ z ≤ 1000) ∧ Drw W sv bs r (lim + 3000) w' ∧ Chg r (r + 1) w w' := by
  have hr := h.lt; have hWr := h.lo
  have HD := Lib.hid (h.keep ((Below.refl _ _).alloc (Nat.le_refl _) (.cells #[.int .i64 0, .slice none 0 0] 25)))
  have HC := Lib.hid ((Chg.refl r (r + 1) w).alloc (.cells #[.int .i64 0, .slice none 0 0] 25))
  have BR := Lib.hid (heap_alloc_new w (.cells #[.int .i64 0, .slice none 0 0] 25))
  have hs0 : (w.alloc (.cells #[.int .i64 0, .slice none 0 0] 25)).heap.size = w.heap.size + 1 := by simp
  clear h
  go_enter Tryd.func11, Tryd.ntmps11
  go_wp2_with fail
  generalize (w.alloc (.cells #[.int .i64 0, .slice none 0 0] 25)) = w0 at *
  refine (l20Graph_any W sv bs _ _ _ _ HD.out (by omega) (by omega) (by omega)).mono ?_
  rintro e w1 ⟨v, g, rfl, hrd, hlen, hm, hd, hc⟩
  obtain ⟨a, c, rfl⟩ := hrd.form
  obtain ⟨v1, hv1, ho1⟩ := hrd
  obtain rfl : v1 = .slice a g.2.length c := by simpa using hv1.symm
  clear hv1
  have hbr := box_lt BR.out
  replace BR := Lib.hid ((hc.block _ hbr (.inr (by omega))).trans BR.out)
  replace HC := Lib.hid (HC.out.trans hc)
  have hsz1 := hc.size
  have hA : Below w1.heap.size w1 (w1.alloc (.cells #[.int .i64 g.1, .slice a g.2.length c] 25)) := (Below.refl _ _).alloc (Nat.le_refl _) _
  replace HD := Lib.hid (hd.keep hA); replace HC := Lib.hid (HC.out.alloc (.cells #[.int .i64 g.1, .slice a g.2.length c] 25)); replace BR := Lib.hid (box_keep BR.out hA)
  have HO := Lib.hid (ho1.keep hA)
  have X := Lib.hid (heap_alloc_new w1 (.cells #[.int .i64 g.1, .slice a g.2.length c] 25))
  have hs2 : (w1.alloc (.cells #[.int .i64 g.1, .slice a g.2.length c] 25)).heap.size = w1.heap.size + 1 := by simp
  clear hA hd hc ho1
  go_wp2_with fail
  generalize (w1.alloc (.cells #[.int .i64 g.1, .slice a g.2.length c] 25)) = w2 at *
  obtain ⟨k, hk, hk1, hk2⟩ : ∃ k : Int, (if g.1 < 1 then 1 else g.1) = k ∧ 1 ≤ k ∧ k ≤ 100 := ⟨_, rfl, by split <;> omega, by split <;> omega⟩
  have hk' : (if 1 < g.1 then g.1 else 1) = k := by rw [← hk]; split <;> split <;> omega
  have hrw : r < w0.heap.size := by omega
  refine wp_region_relA (fun x => { tmps := #[.pointer (some ⟨r, 0, none⟩), x 1, .pointer (some ⟨w.heap.size, 0, none⟩), x 3, .pointer (some ⟨w1.heap.size, 0, none⟩), x 5, x 6, x 7, x 8, x 9, x 10, x 11, x 12, x 13, x 14, x 15, x 16, x 17, x 18, x 19, x 20, x 21], defers := [] })
    (fun n L wx => Drw W sv bs r (lim + 2000 + (n : Int)) wx ∧ Chg r (r + 1) w wx ∧ wx.heap[w1.heap.size]? = some (.cells #[.int .i64 g.1, .slice a g.2.length c] 25 (0, 0)) ∧ Ow w0.heap.size w1.heap.size wx 34 3 (.slice a g.2.length c) g.2.length (tris g.2) ∧ (L 15 = false → wx.heap[w.heap.size]? = some (.cells #[.int .i64 0, .slice none 0 0] 25 (0, 0))) ∧ (L 15 = true → wx.heap[w.heap.size]? = some (.cells #[.int .i64 g.1, .slice a g.2.length c] 25 (0, 0)))) (fun _ _ _ => True)
    (Tl [cst (.agg #[.int .i64 g.1, .slice a g.2.length c]), cst (.pointer (some ⟨r, 0, none⟩)), cst (.pointer (some ⟨w1.heap.size, 0, none⟩)), cst (.int .i64 g.1), cst (.int .i64 k), intP (fun q => 0 ≤ q ∧ q ≤ 99), cst (.pointer (some ⟨r, 0, none⟩)), intP (fun q => 0 ≤ q ∧ q ≤ 11), intP (fun q => 0 ≤ q ∧ q ≤ 1), intP (fun q => -1 ≤ q ∧ q ≤ 99), cst (.pointer (some ⟨r, 0, none⟩)), intP (fun q => 0 ≤ q ∧ q ≤ 11), intP (fun q => 0 ≤ q ∧ q ≤ 1), intP (fun q => 0 ≤ q ∧ q ≤ 20), intP (fun q => -1 ≤ q ∧ q ≤ 119), tru, intP (fun q => -1 ≤ q ∧ q ≤ 119)]) rfl
    (by kernel_rfl) (by kernel_rfl) (by kernel_rfl) (stab_Tl ?hst) (fun _ _ => trivial) ⟨HD.out.keep (Below.refl _ _).drew |>.mono (by omega), HC.out.drew, X.out, HO.out.keep (Below.refl _ _).drew, fun _ => BR.out, fun h => by cases h⟩ ?hput ?hop ?hend
  case hst =>
    simp only [List.mem_cons, List.not_mem_nil, or_false, forall_eq_or_imp, forall_eq]
    refine ⟨?_, ?_, ?_, ?_, ?_, ?_, ?_, ?_, ?_, ?_, ?_, ?_, ?_, ?_, ?_, ?_, ?_⟩
    all_goals first | exact stab_cst _ _ | exact stab_intP _ _ | exact stab_tru _
  case hput =>
    refine ⟨?_, ?_, ?_, ?_, ?_, ?_, ?_, ?_, ?_, ?_, ?_, ?_, ?_, ?_, ?_, ?_, ?_, trivial⟩
    all_goals first | exact fun x v => rfl | exact trivial
  case hop =>
    refine ⟨?_, ?_, ?_, ?_, ?_, ?_, ?_, ?_, ?_, ?_, ?_, ?_, ?_, ?_, ?_, ?_, ?_, trivial⟩
    · refine OpRel.plain rfl fun n L x wx K hn hL hG hdep hK => ?_
      obtain ⟨hd, hc, hx, ho, hz, hb⟩ := hG
      have z0 := box_cell hx 0 (.int .i64 g.1) rfl; have z1 := box_cell hx 1 (.slice a g.2.length c) rfl
      clear hdep; go_simp
      exact hK _ _ ⟨hd.mono (by omega), hc, hx, ho, fun h => hz (by simpa [setL] using h), fun h => hb (by simpa [setL] using h)⟩ trivial rfl
    · refine OpRel.plain rfl fun n L x wx K hn hL hG hdep hK => ?_
      obtain ⟨hd, hc, hx, ho, hz, hb⟩ := hG
      clear hdep; go_simp
      exact hK _ _ ⟨hd.mono (by omega), hc, hx, ho, fun h => hz (by simpa [setL] using h), fun h => hb (by simpa [setL] using h)⟩ trivial rfl
    · refine OpRel.plain rfl fun n L x wx K hn hL hG hdep hK => ?_
      obtain ⟨hd, hc, hx, ho, hz, hb⟩ := hG
      clear hdep; go_simp
      exact hK _ _ ⟨hd.mono (by omega), hc, hx, ho, fun h => hz (by simpa [setL] using h), fun h => hb (by simpa [setL] using h)⟩ trivial rfl
    · refine OpRel.plain rfl fun n L x wx K hn hL hG hdep hK => ?_
      have h9 : x 9 = _ := (hdep 2 rfl).2 _ rfl
      obtain ⟨hd, hc, hx, ho, hz, hb⟩ := hG
      have z0 := box_cell hx 0 (.int .i64 g.1) rfl
      clear hdep; simp only [h9] at hK; go_simp
      exact hK _ _ ⟨hd.mono (by omega), hc, hx, ho, fun h => hz (by simpa [setL] using h), fun h => hb (by simpa [setL] using h)⟩ trivial rfl
    · refine OpRel.plain rfl fun n L x wx K hn hL hG hdep hK => ?_
      have h10 : x 10 = _ := (hdep 3 rfl).2 _ rfl
      obtain ⟨hd, hc, hx, ho, hz, hb⟩ := hG
      clear hdep; simp only [h10] at hK; go_simp
      exact hK _ _ ⟨hd.mono (by omega), hc, hx, ho, fun h => hz (by simpa [setL] using h), fun h => hb (by simpa [setL] using h)⟩ trivial rfl
    · refine OpRel.plain rfl fun n L x wx K hn hL hG hdep hK => ?_
      have h8 : x 8 = _ := (hdep 1 rfl).2 _ rfl
      have h11 : x 11 = _ := (hdep 4 rfl).2 _ rfl
      obtain ⟨hd, hc, hx, ho, hz, hb⟩ := hG
      clear hdep; simp only [h8, h11] at hK; go_simp
      (refine (pick_any W sv bs _ _ k _ hd (by simp at hn; omega) (by omega) (by omega)).mono ?_; rintro e w' ⟨q, rfl, q0, q1, q2, hd', hg⟩; have hxl := box_lt hx; have hwl : w.heap.size < wx.heap.size := (by omega); exact hK _ _ ⟨hd'.mono (by omega), hc.trans hg, (hg.block _ hxl (.inr (by omega))).trans hx, ho.chg hg (.inl (by omega)), fun h => (hg.block _ hwl (.inr (by omega))).trans (hz (by simpa [setL] using h)), fun h => (hg.block _ hwl (.inr (by omega))).trans (hb (by simpa [setL] using h))⟩ trivial ⟨q, rfl, by omega, by omega⟩)
    · refine OpRel.plain rfl fun n L x wx K hn hL hG hdep hK => ?_
      obtain ⟨hd, hc, hx, ho, hz, hb⟩ := hG
      clear hdep; go_simp
      exact hK _ _ ⟨hd.mono (by omega), hc, hx, ho, fun h => hz (by simpa [setL] using h), fun h => hb (by simpa [setL] using h)⟩ trivial rfl
    · refine OpRel.plain rfl fun n L x wx K hn hL hG hdep hK => ?_
      have h13 : x 13 = _ := (hdep 6 rfl).2 _ rfl
      obtain ⟨hd, hc, hx, ho, hz, hb⟩ := hG
      clear hdep; simp only [h13] at hK; go_simp
      (refine (pick_any W sv bs _ _ 12 _ hd (by simp at hn; omega) (by omega) (by omega)).mono ?_; rintro e w' ⟨q, rfl, q0, q1, q2, hd', hg⟩; have hxl := box_lt hx; have hwl : w.heap.size < wx.heap.size := (by omega); exact hK _ _ ⟨hd'.mono (by omega), hc.trans hg, (hg.block _ hxl (.inr (by omega))).trans hx, ho.chg hg (.inl (by omega)), fun h => (hg.block _ hwl (.inr (by omega))).trans (hz (by simpa [setL] using h)), fun h => (hg.block _ hwl (.inr (by omega))).trans (hb (by simpa [setL] using h))⟩ trivial ⟨q, rfl, by omega, by omega⟩)
    · refine OpRel.plain rfl fun n L x wx K hn hL hG hdep hK => ?_
      obtain ⟨hd, hc, hx, ho, hz, hb⟩ := hG
      obtain ⟨q14, h14, l14, u14⟩ := (hdep 7 rfl).2 _ rfl
      simp only [h14] at hK
      have hq : IntKind.i64.wrap (Int.tdiv q14 11) = q14 / 11 := by rw [Int.tdiv_eq_ediv_of_nonneg l14]; exact IntWalk.i64_in _ (by omega)
      clear hdep; go_simp
      exact hK _ _ ⟨hd.mono (by omega), hc, hx, ho, fun h => hz (by simpa [setL] using h), fun h => hb (by simpa [setL] using h)⟩ trivial ⟨_, rfl, by omega, by omega⟩
    · refine OpRel.plain rfl fun n L x wx K hn hL hG hdep hK => ?_
      obtain ⟨hd, hc, hx, ho, hz, hb⟩ := hG
      obtain ⟨q12, h12, l12, u12⟩ := (hdep 5 rfl).2 _ rfl
      simp only [h12] at hK
      obtain ⟨q15, h15, l15, u15⟩ := (hdep 8 rfl).2 _ rfl
      simp only [h15] at hK
      have hq : IntKind.i64.wrap (q12 - q15) = q12 - q15 := IntWalk.i64_in _ (by omega)
      clear hdep; go_simp
      exact hK _ _ ⟨hd.mono (by omega), hc, hx, ho, fun h => hz (by simpa [setL] using h), fun h => hb (by simpa [setL] using h)⟩ trivial ⟨_, rfl, by omega, by omega⟩
    · refine OpRel.plain rfl fun n L x wx K hn hL hG hdep hK => ?_
      obtain ⟨hd, hc, hx, ho, hz, hb⟩ := hG
      clear hdep; go_simp
      exact hK _ _ ⟨hd.mono (by omega), hc, hx, ho, fun h => hz (by simpa [setL] using h), fun h => hb (by simpa [setL] using h)⟩ trivial rfl
    · refine OpRel.plain rfl fun n L x wx K hn hL hG hdep hK => ?_
      have h17 : x 17 = _ := (hdep 10 rfl).2 _ rfl
      obtain ⟨hd, hc, hx, ho, hz, hb⟩ := hG
      clear hdep; simp only [h17] at hK; go_simp
      (refine (pick_any W sv bs _ _ 12 _ hd (by simp at hn; omega) (by omega) (by omega)).mono ?_; rintro e w' ⟨q, rfl, q0, q1, q2, hd', hg⟩; have hxl := box_lt hx; have hwl : w.heap.size < wx.heap.size := (by omega); exact hK _ _ ⟨hd'.mono (by omega), hc.trans hg, (hg.block _ hxl (.inr (by omega))).trans hx, ho.chg hg (.inl (by omega)), fun h => (hg.block _ hwl (.inr (by omega))).trans (hz (by simpa [setL] using h)), fun h => (hg.block _ hwl (.inr (by omega))).trans (hb (by simpa [setL] using h))⟩ trivial ⟨q, rfl, by omega, by omega⟩)
    · refine OpRel.plain rfl fun n L x wx K hn hL hG hdep hK => ?_
      obtain ⟨hd, hc, hx, ho, hz, hb⟩ := hG
      obtain ⟨q18, h18, l18, u18⟩ := (hdep 11 rfl).2 _ rfl
      simp only [h18] at hK
      have hq : IntKind.i64.wrap (Int.tdiv q18 11) = q18 / 11 := by rw [Int.tdiv_eq_ediv_of_nonneg l18]; exact IntWalk.i64_in _ (by omega)
      clear hdep; go_simp
      exact hK _ _ ⟨hd.mono (by omega), hc, hx, ho, fun h => hz (by simpa [setL] using h), fun h => hb (by simpa [setL] using h)⟩ trivial ⟨_, rfl, by omega, by omega⟩
    · refine OpRel.plain rfl fun n L x wx K hn hL hG hdep hK => ?_
      obtain ⟨hd, hc, hx, ho, hz, hb⟩ := hG
      obtain ⟨q19, h19, l19, u19⟩ := (hdep 12 rfl).2 _ rfl
      simp only [h19] at hK
      have hq : IntKind.i64.wrap (q19 * 20) = q19 * 20 := IntWalk.i64_in _ (by omega)
      clear hdep; go_simp
      exact hK _ _ ⟨hd.mono (by omega), hc, hx, ho, fun h => hz (by simpa [setL] using h), fun h => hb (by simpa [setL] using h)⟩ trivial ⟨_, rfl, by omega, by omega⟩
    · refine OpRel.plain rfl fun n L x wx K hn hL hG hdep hK => ?_
      obtain ⟨hd, hc, hx, ho, hz, hb⟩ := hG
      obtain ⟨q16, h16, l16, u16⟩ := (hdep 9 rfl).2 _ rfl
      simp only [h16] at hK
      obtain ⟨q20, h20, l20, u20⟩ := (hdep 13 rfl).2 _ rfl
      simp only [h20] at hK
      have hq : IntKind.i64.wrap (q16 + q20) = q16 + q20 := IntWalk.i64_in _ (by omega)
      clear hdep; go_simp
      exact hK _ _ ⟨hd.mono (by omega), hc, hx, ho, fun h => hz (by simpa [setL] using h), fun h => hb (by simpa [setL] using h)⟩ trivial ⟨_, rfl, by omega, by omega⟩
    · refine OpRel.plain rfl fun n L x wx K hn hL hG hdep hK => ?_
      have h7 : x 7 = _ := (hdep 0 rfl).2 _ rfl
      obtain ⟨hd, hc, hx, ho, hz, hb⟩ := hG
      have z0 := box_cell (hz hL) 0 (.int .i64 0) rfl; have z1 := box_cell (hz hL) 1 (.slice none 0 0) rfl; have z2 := box_frozen (hz hL) 0; have z3 := box_frozen (hz hL) 1
      have hbs := box_set (box_set (hz hL) 0 (.int .i64 g.1)) 1 (.slice a g.2.length c)
      have hwl := box_lt hx
      have hK2 : Chg w.heap.size (w.heap.size + 1) wx ((wx.setCell ⟨w.heap.size, 0, none⟩ (.int .i64 g.1)).setCell ⟨w.heap.size, 1, none⟩ (.slice a g.2.length c)) := (Chg.setCell (p := ⟨w.heap.size, 0, none⟩) (Nat.le_refl _) (Nat.lt_succ_self _) _).trans (Chg.setCell (p := ⟨w.heap.size, 1, none⟩) (Nat.le_refl _) (Nat.lt_succ_self _) _)
      clear hdep; simp only [h7] at hK; go_simp
      exact hK (.bool false) _ ⟨(hd.chg hK2 (.inl (by omega)) (by omega)).mono (by omega), hc.then2 hK2 (Nat.le_refl _), (hK2.block _ hwl (.inr (by omega))).trans hx, ho.chg hK2 (.inl (by omega)), fun h => by simp [setL] at h, fun _ => by simpa using hbs⟩ trivial trivial
    · refine OpRel.plain rfl fun n L x wx K hn hL hG hdep hK => ?_
      obtain ⟨hd, hc, hx, ho, hz, hb⟩ := hG
      obtain ⟨q21, h21, l21, u21⟩ := (hdep 14 rfl).2 _ rfl
      simp only [h21] at hK
      clear hdep; go_simp
      exact hK _ _ ⟨hd.mono (by omega), hc, hx, ho, fun h => hz (by simpa [setL] using h), fun h => hb (by simpa [setL] using h)⟩ trivial ⟨_, rfl, l21, u21⟩
  case hend =>
    intro n' L x wx hn' hG hh
    obtain ⟨q3, h3, l3, u3⟩ := (hh 16 (by decide)).2 _ rfl
    obtain ⟨hd, hc, hx, ho, -, hb⟩ := hG
    have hbx := hb (hh 15 (by decide)).1
    clear hh hb
    simp only [h3]
    have y0 := box_cell hbx 0 (.int .i64 g.1) rfl; have y1 := box_cell hbx 1 (.slice a g.2.length c) rfl
    have hxl := box_lt hx
    have HO9 := Lib.hid ho; have HD9 := Lib.hid hd; have HC9 := Lib.hid hc; clear ho hd hc hx hbx
    go_wp2_with fail
    exact bodyPost_ret (v := .tuple #[.agg #[.int .i64 g.1, .slice a g.2.length c], .int .i64 q3]) (by simp [results, Tryd.results11, go_sem, y0, y1]) rfl ⟨_, g, q3, rfl, ⟨_, rfl, HO9.out.mono (by omega) (by omega)⟩, hlen, hm, ⟨by omega, by omega⟩, HD9.out.mono (by simp at hn'; omega), HC9.out⟩

/-- What comes of drawing a graph and a vertex. -/
def DrewGV (W : World) (e : Ending) (w' : World) : Prop := ∃ a c g z, e = .returned (.tuple #[.agg #[.int .i64 g.1, .slice a g.2.length c], .int .i64 z]) ∧ RdGraph w' (.agg #[.int .i64 g.1, .slice a g.2.length c]) g ∧ g.2.length ≤ 40 ∧ (-1 ≤ g.1 ∧ g.1 ≤ 17) ∧ (-100 ≤ z ∧ z ≤ 1000) ∧ (g.2.length ≤ c ∧ c ≤ 9223372036854775807) ∧ Below W.heap.size W w'
set_option maxRecDepth 100000 in
set_option maxHeartbeats 1000000 in
theorem DrawCostsFrom_any (W : World) (va : Value) (bs : List Int) (hr : Rd W 1 va bs.length (bys bs)) (hg : ∀ x ∈ bs, 0 ≤ x ∧ x ≤ 255) :
    Calls Tryd.prog 4 #[va] W (DrewGV W) := by
  have hb0 : Below W.heap.size W (W.alloc (.cells #[.int .i64 0, .slice none 0 0] 25)) := (Below.refl _ _).alloc (Nat.le_refl _) _
  have HO := Lib.hid (open_any W va bs (W.alloc (.cells #[.int .i64 0, .slice none 0 0] 25)) hr hg hb0); clear hr hg
  have BR := Lib.hid (heap_alloc_new W (.cells #[.int .i64 0, .slice none 0 0] 25))
  have hs0 : (W.alloc (.cells #[.int .i64 0, .slice none 0 0] 25)).heap.size = W.heap.size + 1 := by simp
  have HB := Lib.hid hb0; clear hb0
  go_enter Tryd.func4, Tryd.ntmps4
  go_wp2_with fail
  generalize (W.alloc (.cells #[.int .i64 0, .slice none 0 0] 25)) = w0 at *
  refine HO.out.mono ?_
  rintro e w1 ⟨sv, bs', rfl, hd, hb1, hs1⟩
  rw [hs0] at hd hs1
  have HD := Lib.hid hd
  replace BR := Lib.hid (box_keep BR.out hb1); replace HB := Lib.hid (HB.out.tr hb1)
  clear hd HO hb1
  go_wp2_with fail
  refine (l20At_any W sv bs' _ _ _ HD.out (by omega)).mono ?_
  rintro e w2 ⟨v, g, z, rfl, hrd, hlen, hm, hz, hd, hc⟩
  obtain ⟨a, c, rfl, hr, hc1, hc2⟩ := hrd.rd.form
  have HR := Lib.hid hrd
  have hbr := box_lt BR.out
  replace BR := Lib.hid ((hc.block _ hbr (.inl (by omega))).trans BR.out)
  have HB2 := Lib.hid hd.below
  have hsz := hd.below.size
  clear hd hc HD hr HB hrd
  have y0 := box_cell BR.out 0 (.int .i64 0) rfl; have y1 := box_cell BR.out 1 (.slice none 0 0) rfl; have f0 := box_frozen BR.out 0; have f1 := box_frozen BR.out 1
  go_wp2_with fail
  have hK : Chg W.heap.size (W.heap.size + 1) w2 ((w2.setCell ⟨W.heap.size, 0, none⟩ (.int .i64 g.1)).setCell ⟨W.heap.size, 1, none⟩ (.slice a g.2.length c)) := (Chg.setCell (p := ⟨W.heap.size, 0, none⟩) (Nat.le_refl _) (Nat.lt_succ_self _) _).trans (Chg.setCell (p := ⟨W.heap.size, 1, none⟩) (Nat.le_refl _) (Nat.lt_succ_self _) _)
  have HR2 := HR.out.chg hK (.inl (by omega))
  exact bodyPost_ret (v := .tuple #[.agg #[.int .i64 g.1, .slice a g.2.length c], .int .i64 z]) (by simp [results, Tryd.results4, go_sem, y0, y1]) rfl ⟨a, c, g, z, rfl, HR2.rd, by omega, hm, hz, ⟨hc1, hc2⟩, hK.below HB2.out (Nat.le_refl _)⟩
end Go.Proofs.YtgdggkhdollieaaDoor
