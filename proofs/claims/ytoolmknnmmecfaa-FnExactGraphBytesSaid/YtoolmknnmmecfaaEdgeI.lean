/-
  The record of an edge: the program's function.
-/
import Derived.Test.YtoolmknnmmecfaaEdge
import Derived.Deep.RegionLaw
namespace Go.Proofs.Ytoolmknnmmecfaa
open Go.RowKit

theorem numberFits_any (w : World) (n : Int) : Calls Try.prog 67 #[.int .i64 n] w fun e w' => e = .returned (.bool (decide (0 ≤ n ∧ n ≤ 1000000))) ∧ w = w' := by
  by_cases h : 0 ≤ n
  · by_cases h' : n ≤ 1000000
    all_goals
      go_enter Try.func67, Try.ntmps67
      go_wp2_with fail
      go_ret
      exact ⟨by simp [h, h'], rfl⟩
  · go_enter Try.func67, Try.ntmps67
    go_wp2_with fail
    go_ret
    exact ⟨by simp; intro h2; omega, rfl⟩

set_option maxRecDepth 100000 in
set_option maxHeartbeats 2000000 in
theorem put_any (w : World) (q m : Nat) (n : Int) (a : Option Addr) (c : Nat) (xs : List Int) (hb : w.heap[q]? = some (.cells #[.slice a m c] 88 (0, 0)))
    (hown : w.ownsRow (q + 1) 3 1 (.slice a m c) m (ints xs)) (hm : m ≤ 100) :
    Calls Try.prog 68 #[.pointer (some ⟨q, 0, none⟩), .int .i64 n] w fun e w' =>
      ∃ v', e = .returned (.tuple #[]) ∧ w'.heap[q]? = some (.cells #[v'] 88 (0, 0)) ∧ w'.ownsRow (q + 1) 3 1 v' (m + (encode n).length) (ints (xs ++ encode n)) ∧ Below q w w' := by
  have E0 := Lib.hid fun wx => implEncodeNumber_any wx n
  have l0 := encode_length n
  have HX := Lib.hid hb; have HO := Lib.hid hown; clear hown
  have hq := box_lt hb; clear hb
  have k0 := box_cell HX.out 0 _ rfl
  generalize encode n = ys at *
  generalize hl : ys.length = l at *
  have HL := Lib.hid hl; clear hl
  go_enter Try.func68, Try.ntmps68
  go_wp2_with fail
  have kd : w.drew.cell? ⟨q, 0, none⟩ = some (.slice a m c) := k0
  go_region_law (first
    | (go_simp; go_at_call 51; refine (E0.out _).mono ?_; rintro e w1 ⟨v1, rfl, ho1, hb1⟩; have kk1 := (hb1.cell (p := ⟨q, 0, none⟩) hq).trans k0; have HR1 := Lib.hid ho1.rd; have HO1 := Lib.hid (ownsRow_keep HO.out ((Below.refl _ _).drew.tr hb1)); have HX1 := Lib.hid (box_keep HX.out ((Below.refl _ _).drew.tr hb1)); have HB1 := Lib.hid (((Below.refl w.heap.size w).drew.tr hb1)); have hz1 := HB1.out.size; clear ho1 hb1)
    | (refine step_pushAllB rfl _ _ 43 3 rfl (.int .i64 0) 1 8 Try.underlying43 infoInt rfl (by decide) (by decide) (q + 1) _ m (ints xs) HO1.out rfl v1 l (ints ys) (by rw [← HL.out]; exact HR1.out) rfl (ints_one _) (by omega) (by omega) (by omega) ?_; intro v2 w2 hown2 hbel2 hne2; obtain ⟨_, a2, c2, rfl, _, _, _⟩ := Rd.of_own hown2; have HO2 := Lib.hid hown2; have HB2 := Lib.hid hbel2; have HX2 := Lib.hid ((hbel2.block q (by omega)).trans HX1.out); have fz2 := box_frozen HX2.out 0; have hz2 := hbel2.size; have kk2 := (hbel2.cell (p := ⟨q, 0, none⟩) (by simp)).trans kk1; clear hown2 hbel2 hne2))
  all_goals
    go_wp2_with fail
    go_end0
    have hs := Chg.setCell (w := w2) (lo := q) (hi := q + 1) (p := ⟨q, 0, none⟩) (Nat.le_refl _) (Nat.lt_succ_self _) (.slice a2 (m + l) c2)
    refine ⟨_, rfl, box_set HX2.out 0 _, ?_, ((HB1.out.mono (Nat.le_of_lt (box_lt HX.out))).trans (HB2.out.mono (by omega))).setCell (Nat.le_refl _) _⟩
    rw [ints_append]
    exact ownsRow_chg HO2.out hs (by omega)
theorem numberFits_yes (w : World) (n : Int) (h : 0 ≤ n ∧ n ≤ 1000000) : Calls Try.prog 67 #[.int .i64 n] w fun e w' => e = .returned (.bool true) ∧ w = w' := by
  have := numberFits_any w n
  rwa [decide_eq_true h] at this
theorem numberFits_no (w : World) (n : Int) (h : ¬ (0 ≤ n ∧ n ≤ 1000000)) : Calls Try.prog 67 #[.int .i64 n] w fun e w' => e = .returned (.bool false) ∧ w = w' := by
  have := numberFits_any w n
  rwa [decide_eq_false h] at this
end Go.Proofs.Ytoolmknnmmecfaa
