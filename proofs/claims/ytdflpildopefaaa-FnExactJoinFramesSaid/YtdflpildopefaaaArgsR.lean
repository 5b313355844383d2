/-
  How a list of lists of ints that came in reads.
-/
import Derived.Test.YtdflpildopefaaaArgs
import Derived.Test.YtdflpildopefaaaIntSS
import Derived.Deep.Slices
import Derived.Deep.Fields
import Derived.ChangeSame
namespace Go.Proofs.Ytdflpildopefaaa
open Go.ChangeShapes Go.WideShapes Go.ChangeAt Go.RowKit Go.Joins Go.Deep
set_option linter.unusedVariables false

theorem list_of_each' {α : Type} {d : α} {R : Nat → α → Prop} : ∀ n, (∀ i, i < n → ∃ y, R i y) → ∃ ys : List α, ys.length = n ∧ ∀ i, i < n → R i (ys.getD i d)
  | 0, _ => ⟨[], rfl, fun i h => by omega⟩
  | n + 1, h => by
    obtain ⟨ys, hl, hy⟩ := list_of_each' (d := d) n fun i hi => h i (by omega)
    obtain ⟨y, hyn⟩ := h n (by omega)
    refine ⟨ys ++ [y], by simp [hl], fun i hi => ?_⟩
    by_cases hin : i < n
    · have e : (ys ++ [y]).getD i d = ys.getD i d := by simp [List.getElem?_append, hl, hin]
      rw [e]; exact hy i hin
    · obtain rfl : i = n := by omega
      have e : (ys ++ [y]).getD i d = y := by simp [hl]
      rw [e]; exact hyn
section
variable {H : Type} {enc : TypeId × Value → H} {P : Program} {W : World}
theorem trod_rows {t e e2 : TypeId} {n : Nat} {v : Value} {x : DataW H × List MemPlace} (ht : P.underlying t = some (.slice e)) (he : P.underlying e = some (.slice e2)) (he2 : P.underlying e2 = some (.int .i64)) (hC : P.cellsOf e = 1) (hC2 : P.cellsOf e2 = 1)
    (h : DataW.trod enc P W 0 (fun _ => true) true n t [v] = some x) : ∃ xss : List (List Int), RdIntSS W v xss ∧ WfIntSS xss := by
  rcases open_slice ht h with ⟨hcs, _⟩ | ⟨a, len, cap, m, k, D, Pl, hcs, _, hl, hm, hmm, hx, hi⟩
  · obtain rfl : v = .slice none 0 0 := by simpa using hcs
    exact ⟨[], ⟨[], Rd.nil _ _, fun i hi => by simp at hi⟩, fun y hy => by cases hy⟩
  · obtain rfl : v = .slice (some a) len cap := by simpa using hcs
    simp only [if_true] at hmm
    subst hmm
    obtain ⟨b, off, spot⟩ := a
    have each : ∀ i, i < len → ∃ p : Value × List Int, W.cell? ((⟨b, off, spot⟩ : Addr).add i) = some p.1 ∧ RdIntS W p.1 p.2 ∧ WfIntS p.2 := by
      intro i hi'
      obtain ⟨cs', hc, ht'⟩ := hi i (by omega)
      rw [hC] at hc
      obtain ⟨_, hcl, hat⟩ := World.cells?_some hc
      have hcell := hat (i := 0) (by decide)
      match cs', hcl with
      | [u], _ =>
        obtain ⟨xs, hr, hw⟩ := trod_ints he he2 hC2 ht'
        refine ⟨(u, xs), ?_, hr, hw⟩
        rw [Nat.mul_one] at hcell
        rw [show (⟨b, off, spot⟩ : Addr).add i = ((⟨b, off, spot⟩ : Addr).add i).add 0 from by rw [Go.Deep.add_add, Nat.add_zero], hcell]; rfl
    by_cases hz : len = 0
    · subst hz
      exact ⟨[], ⟨[], ⟨rfl, _, _, rfl, hl, hm, .inl rfl⟩, fun i hi => by simp at hi⟩, fun y hy => by cases hy⟩
    have hspot : spot = none := by
      obtain ⟨p, c0, _⟩ := each 0 (by omega)
      simpa [Addr.add] using World.cell?_spot c0
    subst hspot
    obtain ⟨ys, hyl, hall⟩ := list_of_each' (d := (Value.nilFunc, [])) len each
    have hmap : ∀ i, (ys.map (·.2)).getD i [] = (ys.getD i (Value.nilFunc, [])).2 := by
      intro i
      by_cases hi : i < ys.length
      · simp [hi]
      · simp [List.getElem?_eq_none (Nat.le_of_not_lt hi)]
    refine ⟨ys.map (·.2), ⟨ys.map (·.1), ?_, fun i hi' => ?_⟩, fun xs hx => ?_⟩
    · rw [List.length_map, hyl]
      refine ⟨by simp [hyl], _, _, rfl, hl, hm, .inr ⟨b, off, rfl, fun i hi' => ?_⟩⟩
      rw [List.length_map, hyl] at hi'
      have := (hall i hi').1
      rw [add_lit'] at this
      rw [this]
      simp [show i < ys.length by omega]
    · rw [List.length_map, hyl] at hi'
      have := (hall i hi').2.1
      refine ⟨(ys.getD i (Value.nilFunc, [])).1, by simp [show i < ys.length by omega], ?_⟩
      rw [hmap]; exact this
    · obtain ⟨p, hp, rfl⟩ := List.mem_map.1 hx
      obtain ⟨i, hi', rfl⟩ := List.mem_iff_getElem.1 hp
      have := (hall i (by omega)).2.2
      have e : ys.getD i (Value.nilFunc, []) = ys[i] := by simp [hi']
      rwa [e] at this
end
end Go.Proofs.Ytdflpildopefaaa
