/-
  Graphs that are drawn for the laws.
-/
import Derived.Test.YtobhekkgbccoiaaDoorDrawE
namespace Go.Proofs.YtobhekkgbccoiaaDoor
open Go.RowKit
set_option linter.unusedVariables false

/-- What comes of drawing a graph. -/
def DrewG (W : World) (e : Ending) (w' : World) : Prop := ∃ a c g, e = .returned (.agg #[.int .i64 g.1, .slice a g.2.length c]) ∧ RdGraph w' (.agg #[.int .i64 g.1, .slice a g.2.length c]) g ∧ g.2.length ≤ 40 ∧ (-1 ≤ g.1 ∧ g.1 ≤ 17) ∧ (g.2.length ≤ c ∧ c ≤ 9223372036854775807) ∧ Below W.heap.size W w'
set_option maxRecDepth 100000 in
set_option maxHeartbeats 1000000 in
theorem DrawLeastInPart_any (W : World) (va : Value) (bs : List Int) (hr : Rd W 1 va bs.length (bys bs)) (hg : ∀ x ∈ bs, 0 ≤ x ∧ x ≤ 255) :
    Calls Tryd.prog 21 #[va] W (DrewG W) := by
  have hb0 : Below W.heap.size W (W.alloc (.cells #[.int .i64 0, .slice none 0 0] 30)) := (Below.refl _ _).alloc (Nat.le_refl _) _
  have HO := Lib.hid (open_any W va bs (W.alloc (.cells #[.int .i64 0, .slice none 0 0] 30)) hr hg hb0); clear hr hg
  have BR := Lib.hid (heap_alloc_new W (.cells #[.int .i64 0, .slice none 0 0] 30))
  have hs0 : (W.alloc (.cells #[.int .i64 0, .slice none 0 0] 30)).heap.size = W.heap.size + 1 := by simp
  have HB := Lib.hid hb0; clear hb0
  go_enter Tryd.func21, Tryd.ntmps21
  go_wp2_with fail
  generalize (W.alloc (.cells #[.int .i64 0, .slice none 0 0] 30)) = w0 at *
  refine HO.out.mono ?_
  rintro e w1 ⟨sv, bs', rfl, hd, hb1, hs1⟩
  rw [hs0] at hd hs1
  have HD := Lib.hid hd
  replace BR := Lib.hid (box_keep BR.out hb1); replace HB := Lib.hid (HB.out.tr hb1)
  clear hd HO hb1
  go_wp2_with fail
  refine (l20Graph_any W sv bs' _ _ _ _ HD.out (by omega) (by omega) (by omega)).mono ?_
  rintro e w2 ⟨v, g, rfl, hrd, hlen, hm, hd, hc⟩
  obtain ⟨a, c, rfl, hr, hc1, hc2⟩ := hrd.rd.form
  have HR := Lib.hid hrd
  have hbr := box_lt BR.out
  replace BR := Lib.hid ((hc.block _ hbr (.inl (by omega))).trans BR.out)
  have HB2 := Lib.hid hd.below
  have hsz := hd.below.size
  clear hd hc HD hr HB hrd
  have y0 := box_cell BR.out 0 (.int .i64 0) rfl; have y1 := box_cell BR.out 1 (.slice none 0 0) rfl; have f0 := box_frozen BR.out 0; have f1 := box_frozen BR.out 1
  go_wp2_with fail
  have hK : Chg W.heap.size (W.heap.size + 1) w2 ((w2.setCell ⟨W.heap.size, 0, none⟩ (.int .i64 g.1)).setCell ⟨W.heap.size, 1, none⟩ (.slice a g.2.length c)) := (Chg.setCell (p := ⟨W.heap.size, 0, none⟩) (Nat.le_refl _) (Nat.lt_succ_self _) _).trans (Chg.setCell (p := ⟨W.heap.size, 1, none⟩) (Nat.le_refl _) (Nat.lt_succ_self _) _)
  have HR2 := HR.out.chg hK (.inl (by omega))
  exact bodyPost_ret (v := .agg #[.int .i64 g.1, .slice a g.2.length c]) (by simp [results, Tryd.results21, go_sem, y0, y1]) rfl ⟨a, c, g, rfl, HR2.rd, by omega, hm, ⟨hc1, hc2⟩, hK.below HB2.out (Nat.le_refl _)⟩
end Go.Proofs.YtobhekkgbccoiaaDoor
