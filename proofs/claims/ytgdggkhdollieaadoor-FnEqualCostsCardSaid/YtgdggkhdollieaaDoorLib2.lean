/-
  Appends to a known block: no other block changes.
-/
import Derived.Test.YtgdggkhdollieaaDoorLib
namespace Go.Proofs.YtgdggkhdollieaaDoor
open Go.RowKit
variable {P : Program}

theorem wp_pushAllC {w : World} {o : Oper} {a : Act} {K : Act → World → Prop} {Q : Exit → Act → World → Prop} (s x : Operand) (t e : TypeId)
    (ho : o.op = .call { callee := .builtin .append, args := #[s, x], argTypes := #[t, t] })
    (z : Value) (size bytes : Nat) (ht : P.underlying t = some (.slice e)) (hinfo : (P.info? e).map (fun i => (i.zero, i.size, i.bytes)) = some (some z, size, bytes)) (hzs : z.cells.size = size) (hsz : 0 < size) (hby : bytes ≤ 64)
    (g c n : Nat) (xs : List Value) (hown : w.ownsRow g e size (.slice (some ⟨g, 0, none⟩) n c) n xs) (hs : a.eval s = .slice (some ⟨g, 0, none⟩) n c) (y : Value) (m : Nat) (ys : List Value) (hy : Rd w size y m ys) (hx : a.eval x = y) (h1 : ∀ u ∈ ys, u.oneCell' = true)
    (hn : n ≤ 1099511627776) (hm : m ≤ 1099511627776) (hbase2 : g ≤ w.heap.size)
    (h : ∀ v' w', w'.ownsRow g e size v' (n + m) (xs ++ ys) → Chg g (g + 1) w w' → v' ≠ .slice none 0 0 → K (a.put o.dst v') w') : o.wp P a w K Q := by
  obtain ⟨i, hi, hz, hs1, hb1⟩ := info_parts hinfo
  obtain ⟨hl, ad, cap, rfl, hmc, hcm, hc⟩ := hy
  have hb2 : (n + m) * bytes ≤ 140737488355328 := Nat.le_trans (Nat.mul_le_mul_left _ hby) (by omega)
  rcases hc with rfl | ⟨b, off, rfl, hc⟩
  · have hm0 : m = 0 := by
      rcases Nat.eq_zero_or_pos m with h | h
      · exact h
      · have := Nat.mul_pos h hsz; simp at hl; omega
    subst hm0
    have fc : ∀ w' : World, (Builtin.firstCells size 0 (.slice ad 0 cap)).run P w' = .ok #[] w' := by
      intro w'
      cases ad with
      | none => simp [Builtin.firstCells]
      | some b => simp [Builtin.firstCells, loadCells, loadCellsFrom]
    have hrun : (Builtin.append_ #[t, t] o.type #[.slice (some ⟨g, 0, none⟩) n c, .slice ad 0 cap]).run P w = .ok (.slice (some ⟨g, 0, none⟩) n c) w := by
      have fc' := fc w
      rw [← hs1] at fc'
      rcases hown.2 with ⟨hv, _⟩ | ⟨g', cap', cur, hv, hbg, hg, hnc, hcm', hcs, htake⟩
      · simp at hv
      · simp only [Value.slice.injEq, Option.some.injEq, Addr.mk.injEq, and_true, true_and] at hv
        obtain ⟨rfl, rfl⟩ := hv
        simp [Builtin.append_, run_underlying ht, sizeOf, typeInfo, hi, Builtin.lenOf, fc', hnc, storeCells]
    unfold Oper.wp
    simp [execOp, ho, resolve, invoke, builtin, hs, hx, hrun, Result.andThen]
    exact h _ w (by simpa using hown) (Chg.refl _ _ _) (by simp)
  · refine wp_append_own (P := P) _ s x t ho g e i z size bytes ht hi hz hs1 hb1 hzs hsz _ n xs hs hown ⟨b, off, none⟩ m cap ys hx hl ?_ h1 (by unfold maxLen; omega) hb2 hbase2 ?_
    · intro j u hu
      have hj : j < ys.length := (List.getElem?_eq_some_iff.1 hu).1
      rw [add_lit', hc j hj]; exact hu
    · intro v' w' h2 h3 h4
      exact h v' w' h2 (Chg.of_grown h3) (fun e => by rw [h4] at e; simp at e)
theorem wpList_pushAllC {w : World} {ops : Array Oper} {rest : List Oper} {o : Oper} {a : Act} {Q : Exit → Act → World → Prop} (hw : Region.wanted o (yielded ops a.tmps) = true) (s x : Operand) (t e : TypeId)
    (ho : o.op = .call { callee := .builtin .append, args := #[s, x], argTypes := #[t, t] })
    (z : Value) (size bytes : Nat) (ht : P.underlying t = some (.slice e)) (hinfo : (P.info? e).map (fun i => (i.zero, i.size, i.bytes)) = some (some z, size, bytes)) (hzs : z.cells.size = size) (hsz : 0 < size) (hby : bytes ≤ 64)
    (g c n : Nat) (xs : List Value) (hown : w.ownsRow g e size (.slice (some ⟨g, 0, none⟩) n c) n xs) (hs : a.eval s = .slice (some ⟨g, 0, none⟩) n c) (y : Value) (m : Nat) (ys : List Value) (hy : Rd w size y m ys) (hx : a.eval x = y) (h1 : ∀ u ∈ ys, u.oneCell' = true)
    (hn : n ≤ 1099511627776) (hm : m ≤ 1099511627776) (hbase2 : g ≤ w.heap.size)
    (h : ∀ v' w', w'.ownsRow g e size v' (n + m) (xs ++ ys) → Chg g (g + 1) w w' → v' ≠ .slice none 0 0 → wpList P ops Q rest (a.put o.dst v') w') : wpList P ops Q (o :: rest) a w := by
  refine wpList_step fun K hK => ?_
  rw [if_pos hw]
  exact wp_pushAllC s x t e ho z size bytes ht hinfo hzs hsz hby g c n xs hown hs y m ys hy hx h1 hn hm hbase2 fun v' w' h2 h3 h4 => hK _ _ (h v' w' h2 h3 h4)
end Go.Proofs.YtgdggkhdollieaaDoor
