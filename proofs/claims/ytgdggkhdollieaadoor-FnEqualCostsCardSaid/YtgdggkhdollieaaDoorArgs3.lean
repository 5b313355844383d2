/-
  How a slice of structs of three ints that came in reads.
-/
import Derived.Test.YtgdggkhdollieaaDoorArgs
import Derived.Test.YtgdggkhdollieaaDoorTri
import Derived.Deep.Slices
import Derived.Deep.Fields
import Derived.ChangeSame
namespace Go.Proofs.YtgdggkhdollieaaDoor
open Go.ChangeShapes Go.WideShapes Go.ChangeAt Go.RowKit Go.Joins Go.Deep
set_option linter.unusedVariables false

theorem list_of_each {R : Nat → Tri → Prop} : ∀ n, (∀ i, i < n → ∃ y, R i y) → ∃ ys : List Tri, ys.length = n ∧ ∀ i, i < n → R i (ys.getD i triZ)
  | 0, _ => ⟨[], rfl, fun i h => by omega⟩
  | n + 1, h => by
    obtain ⟨ys, hl, hy⟩ := list_of_each n fun i hi => h i (by omega)
    obtain ⟨y, hyn⟩ := h n (by omega)
    refine ⟨ys ++ [y], by simp [hl], fun i hi => ?_⟩
    by_cases hin : i < n
    · have e : (ys ++ [y]).getD i triZ = ys.getD i triZ := by simp [List.getElem?_append, hl, hin]
      rw [e]; exact hy i hin
    · obtain rfl : i = n := by omega
      have e : (ys ++ [y]).getD i triZ = y := by simp [hl]
      rw [e]; exact hyn
section
variable {H : Type} {enc : TypeId × Value → H} {P : Program} {W : World}
/-- A slice of structs of three ints that came in. -/
theorem trod_tris {t e : TypeId} {f0 f1 f2 : Field} {n : Nat} {v : Value} {x : DataW H × List MemPlace} (ht : P.underlying t = some (.slice e)) (he : P.underlying e = some (.struct #[f0, f1, f2])) (hone : oneCellFields P #[f0, f1, f2] = true) (hC : P.cellsOf e = 3)
    (h0 : P.underlying f0.type = some (.int .i64)) (h1 : P.underlying f1.type = some (.int .i64)) (h2 : P.underlying f2.type = some (.int .i64))
    (h : DataW.trod enc P W 0 (fun _ => true) true n t [v] = some x) : ∃ ys : List Tri, Rd W 3 v ys.length (tris ys) ∧ WfTriS ys := by
  rcases open_slice ht h with ⟨hcs, _⟩ | ⟨a, len, cap, m, k, D, Pl, hcs, _, hl, hm, hmm, hx, hi⟩
  · obtain rfl : v = .slice none 0 0 := by simpa using hcs
    exact ⟨[], Rd.nil _ _, fun y hy => by cases hy⟩
  · obtain rfl : v = .slice (some a) len cap := by simpa using hcs
    simp only [if_true] at hmm
    subst hmm
    obtain ⟨b, off, spot⟩ := a
    have cell : ∀ i, i < len → ∀ (j : Nat) (f : Field), #[f0, f1, f2][j]? = some f → P.underlying f.type = some (.int .i64) → ∃ z : Int, W.cell? ((⟨b, off, spot⟩ : Addr).add (i * 3 + j)) = some (.int .i64 z) ∧ In64 z := by
      intro i hi' j f hj hu
      obtain ⟨cs', hc, ht'⟩ := hi i (by omega)
      rw [hC] at hc
      obtain ⟨ys, n', hn', hy, hlen, hyl, hf⟩ := DataW.trod_struct he ht'
      obtain ⟨_, hcl, hat⟩ := World.cells?_some hc
      obtain ⟨ho, hk⟩ := hone_of hone j f hj
      have hjl : j < 3 := (Array.getElem?_eq_some_iff.1 hj).1
      have hcell := hat j hjl
      have hv : cs'[j]? = some (cs'[j]'(by omega)) := List.getElem?_eq_getElem (by omega)
      have h1 := hf j f hj
      rw [ho, hk] at h1
      have hone' : (cs'.drop j).take 1 = [cs'[j]'(by omega)] := by
        rw [List.drop_eq_getElem_cons (by omega)]
        rfl
      rw [hone'] at h1
      have hys : ys[j]? = some (ys[j]'(by rw [hyl]; exact hjl)) := List.getElem?_eq_getElem (by rw [hyl]; exact hjl)
      obtain ⟨z, hz, hw⟩ := trod_int1 hu (h1.trans hys)
      exact ⟨z, by rw [← Go.Deep.add_add, hcell, hv, hz], hw⟩
    by_cases hz : len = 0
    · subst hz
      exact ⟨[], ⟨rfl, _, _, rfl, hl, hm, .inl rfl⟩, fun y hy => by cases hy⟩
    have hspot : spot = none := by
      obtain ⟨z, c0, _⟩ := cell 0 (by omega) 0 f0 rfl h0
      simpa [Addr.add] using World.cell?_spot c0
    subst hspot
    have each : ∀ i, i < len → ∃ y : Tri, (W.cell? ⟨b, off + i * 3, none⟩ = some (.int .i64 y.1) ∧ W.cell? ⟨b, off + (i * 3 + 1), none⟩ = some (.int .i64 y.2.1) ∧ W.cell? ⟨b, off + (i * 3 + 2), none⟩ = some (.int .i64 y.2.2)) ∧ WfTri y := by
      intro i hi'
      obtain ⟨z0, c0, w0⟩ := cell i hi' 0 f0 rfl h0
      obtain ⟨z1, c1, w1⟩ := cell i hi' 1 f1 rfl h1
      obtain ⟨z2, c2, w2⟩ := cell i hi' 2 f2 rfl h2
      rw [add_lit'] at c0 c1 c2
      exact ⟨(z0, z1, z2), ⟨c0, c1, c2⟩, w0, w1, w2⟩
    obtain ⟨ys, hyl, hall⟩ := list_of_each len each
    have hW : WfTriS ys := by
      intro y hy
      obtain ⟨i, hi', rfl⟩ := List.mem_iff_getElem.1 hy
      have := (hall i (by omega)).2
      have e : ys.getD i triZ = ys[i] := by simp [hi']
      rwa [e] at this
    refine ⟨ys, ?_, hW⟩
    rw [hyl]
    refine ⟨by rw [tris_length, hyl], _, _, rfl, hl, hm, .inr ⟨b, off, rfl, fun i hi' => ?_⟩⟩
    rw [tris_length, hyl] at hi'
    obtain ⟨k3, j, hj, rfl⟩ : ∃ k j, j < 3 ∧ i = k * 3 + j := ⟨i / 3, i % 3, Nat.mod_lt _ (by decide), by omega⟩
    obtain ⟨⟨c0, c1, c2⟩, _⟩ := hall k3 (by omega)
    obtain ⟨g0, g1, g2⟩ := tris_get ys k3 (by omega)
    match j, hj with
    | 0, _ => rw [Nat.add_zero, g0]; exact c0
    | 1, _ => rw [g1]; exact c1
    | 2, _ => rw [g2]; exact c2
end
end Go.Proofs.YtgdggkhdollieaaDoor
