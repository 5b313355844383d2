/-
  Appends to a list that is owned, or has no room at all: what lies below the owned blocks stays.
-/
import Derived.Test.YtgdggkhdollieaaDoorLib3
import Derived.Test.YtgdggkhdollieaaDoorLib2
namespace Go.Proofs.YtgdggkhdollieaaDoor
open Go.RowKit
variable {P : Program}

theorem first0 (size : Nat) (b : Option Addr) (w : World) : (Builtin.firstCells size 0 (.slice b 0 0)).run P w = .ok #[] w := by
  cases b with
  | none => simp [Builtin.firstCells]
  | some b => simp [Builtin.firstCells, loadCells, loadCellsFrom]
/-- Appending to a list without room is appending to nil. -/
theorem append0_run {t e ty : TypeId} {i : TypeInfo} (ht : P.underlying t = some (.slice e)) (hi : P.info? e = some i) (ad : Addr) (b : Option Addr) (m cap : Nat) (h0 : 0 < m) (hb : m * i.bytes ≤ 140737488355328) (w : World) :
    (Builtin.append_ #[t, t] ty #[.slice (some ad) 0 0, .slice b m cap]).run P w = (Builtin.append_ #[t, t] ty #[.slice none 0 0, .slice b m cap]).run P w := by
  have hnc : Builtin.nextslicecap m 0 = m := by unfold Builtin.nextslicecap; rw [if_pos (by omega)]
  have h1 : ¬ (m * i.bytes > 2 ^ 48) := by omega
  have h2 : ¬ (m = 0) := by omega
  have f1 := fun w' => first0 (P := P) i.size (some ad) w'
  have f2 := fun w' => first0 (P := P) i.size none w'
  simp [Builtin.append_, run_underlying ht, sizeOf, typeInfo, hi, Builtin.lenOf, hnc, h1, h2, f1, f2]
theorem wp_appendOw {w : World} {o : Oper} {a : Act} {K : Act → World → Prop} {Q : Exit → Act → World → Prop} (s x : Operand) (t e : TypeId)
    (ho : o.op = .call { callee := .builtin .append, args := #[s, x], argTypes := #[t, t] })
    (z : Value) (size bytes : Nat) (ht : P.underlying t = some (.slice e)) (hinfo : (P.info? e).map (fun i => (i.zero, i.size, i.bytes)) = some (some z, size, bytes)) (hzs : z.cells.size = size) (hsz : 0 < size) (hby : bytes ≤ 64)
    (lo hi : Nat) (v : Value) (n : Nat) (xs : List Value) (hown : Ow lo hi w e size v n xs) (hs : a.eval s = v) (y : Value) (m : Nat) (ys : List Value) (hy : Rd w size y m ys) (hx : a.eval x = y) (h1 : ∀ u ∈ ys, u.oneCell' = true)
    (hn : n ≤ 1099511627776) (hm : m ≤ 1099511627776) (hlo : lo ≤ w.heap.size)
    (h : ∀ v' w', Ow lo w'.heap.size w' e size v' (n + m) (xs ++ ys) → Below lo w w' → K (a.put o.dst v') w') : o.wp P a w K Q := by
  have fin : ∀ (base : Nat) (v' : Value) (w' : World), lo ≤ base → w'.ownsRow base e size v' (n + m) (xs ++ ys) → Below base w w' → K (a.put o.dst v') w' := fun base v' w' hb h2 h3 => h v' w' ((Ow.of_row h2).mono hb (Nat.le_refl _)) (h3.mono hb)
  rcases hown.cases with ⟨rfl, rfl, b, rfl⟩ | ⟨g, cap, rfl, hg1, hg2, hr⟩
  · cases b with
    | none => exact wp_pushAllB s x t e ho z size bytes ht hinfo hzs hsz hby w.heap.size _ 0 [] (World.ownsRow_nil _ _ _ _) hs y m ys hy hx h1 hn hm (Nat.le_refl _) fun v' w' h2 h3 _ => fin _ v' w' hlo h2 h3
    | some ad =>
      obtain ⟨i, hii, hz, hs1, hb1⟩ := info_parts hinfo
      obtain ⟨b, cap, rfl, hmc, hcm⟩ := hy.form
      rcases Nat.eq_zero_or_pos m with rfl | hm0
      · have hys : ys = [] := by have := hy.length; simp at this; exact this
        subst hys
        have fc : ∀ w' : World, (Builtin.firstCells i.size 0 (.slice b 0 cap)).run P w' = .ok #[] w' := by
          intro w'
          cases b with
          | none => simp [Builtin.firstCells]
          | some b => simp [Builtin.firstCells, loadCells, loadCellsFrom]
        have hrun : (Builtin.append_ #[t, t] o.type #[.slice (some ad) 0 0, .slice b 0 cap]).run P w = .ok (.slice (some ad) 0 0) w := by
          have fc' := fc w
          simp [Builtin.append_, run_underlying ht, sizeOf, typeInfo, hii, Builtin.lenOf, fc', storeCells]
        unfold Oper.wp
        simp [execOp, ho, resolve, invoke, builtin, hs, hx, hrun, Result.andThen]
        exact h _ w (.inl ⟨rfl, rfl, _, rfl⟩) (Below.refl _ _)
      · have hb2 : m * i.bytes ≤ 140737488355328 := by rw [hb1]; exact Nat.le_trans (Nat.mul_le_mul_left _ hby) (by omega)
        have hrun := append0_run (ty := o.type) ht hii ad b m cap hm0 hb2 w
        have h5 := wp_pushAllB (P := P) (w := w) (o := { o with op := .call { callee := .builtin .append, args := #[.const (.slice none 0 0), x], argTypes := #[t, t] } }) (a := a) (K := K) (Q := Q) (.const (.slice none 0 0)) x t e rfl z size bytes ht hinfo hzs hsz hby w.heap.size _ 0 [] (World.ownsRow_nil _ _ _ _) rfl _ m ys hy hx h1 hn hm (Nat.le_refl _) fun v' w' h2 h3 _ => fin _ v' w' hlo h2 h3
        unfold Oper.wp at h5 ⊢
        simp [execOp, ho, resolve, invoke, builtin, hs, hx, hrun] at h5 ⊢
        have hc : a.eval (.const (.slice none 0 0)) = .slice none 0 0 := rfl
        rw [hc] at h5
        exact h5
  · exact wp_pushAllB s x t e ho z size bytes ht hinfo hzs hsz hby g _ n xs hr hs y m ys hy hx h1 hn hm (by have := hr.lt g rfl; omega) fun v' w' h2 h3 _ => fin _ v' w' hg1 h2 h3
theorem step_appendOw {w : World} {ops : Array Oper} {o : Oper} {a : Act} {K : Act → World → Prop} {Q : Exit → Act → World → Prop} {E : Prop} (hw : Region.wanted o (yielded ops a.tmps) = true) (s x : Operand) (t e : TypeId)
    (ho : o.op = .call { callee := .builtin .append, args := #[s, x], argTypes := #[t, t] })
    (z : Value) (size bytes : Nat) (ht : P.underlying t = some (.slice e)) (hinfo : (P.info? e).map (fun i => (i.zero, i.size, i.bytes)) = some (some z, size, bytes)) (hzs : z.cells.size = size) (hsz : 0 < size) (hby : bytes ≤ 64)
    (lo hi : Nat) (v : Value) (n : Nat) (xs : List Value) (hown : Ow lo hi w e size v n xs) (hs : a.eval s = v) (y : Value) (m : Nat) (ys : List Value) (hy : Rd w size y m ys) (hx : a.eval x = y) (h1 : ∀ u ∈ ys, u.oneCell' = true)
    (hn : n ≤ 1099511627776) (hm : m ≤ 1099511627776) (hlo : lo ≤ w.heap.size)
    (h : ∀ v' w', Ow lo w'.heap.size w' e size v' (n + m) (xs ++ ys) → Below lo w w' → K (a.put o.dst v') w') :
    if Region.wanted o (yielded ops a.tmps) = true then Oper.wp P o a w K Q else E := by
  rw [if_pos hw]
  exact wp_appendOw s x t e ho z size bytes ht hinfo hzs hsz hby lo hi v n xs hown hs y m ys hy hx h1 hn hm hlo h
theorem wpList_appendOw {w : World} {ops : Array Oper} {rest : List Oper} {o : Oper} {a : Act} {Q : Exit → Act → World → Prop} (hw : Region.wanted o (yielded ops a.tmps) = true) (s x : Operand) (t e : TypeId)
    (ho : o.op = .call { callee := .builtin .append, args := #[s, x], argTypes := #[t, t] })
    (z : Value) (size bytes : Nat) (ht : P.underlying t = some (.slice e)) (hinfo : (P.info? e).map (fun i => (i.zero, i.size, i.bytes)) = some (some z, size, bytes)) (hzs : z.cells.size = size) (hsz : 0 < size) (hby : bytes ≤ 64)
    (lo hi : Nat) (v : Value) (n : Nat) (xs : List Value) (hown : Ow lo hi w e size v n xs) (hs : a.eval s = v) (y : Value) (m : Nat) (ys : List Value) (hy : Rd w size y m ys) (hx : a.eval x = y) (h1 : ∀ u ∈ ys, u.oneCell' = true)
    (hn : n ≤ 1099511627776) (hm : m ≤ 1099511627776) (hlo : lo ≤ w.heap.size)
    (h : ∀ v' w', Ow lo w'.heap.size w' e size v' (n + m) (xs ++ ys) → Below lo w w' → wpList P ops Q rest (a.put o.dst v') w') : wpList P ops Q (o :: rest) a w := by
  refine wpList_step fun K hK => ?_
  rw [if_pos hw]
  exact wp_appendOw s x t e ho z size bytes ht hinfo hzs hsz hby lo hi v n xs hown hs y m ys hy hx h1 hn hm hlo fun v' w' h2 h3 => hK _ _ (h v' w' h2 h3)

/-! The same, with what has changed: blocks from lo up to hi alone. -/
theorem wp_appendC {w : World} {o : Oper} {a : Act} {K : Act → World → Prop} {Q : Exit → Act → World → Prop} (s x : Operand) (t e : TypeId)
    (ho : o.op = .call { callee := .builtin .append, args := #[s, x], argTypes := #[t, t] })
    (z : Value) (size bytes : Nat) (ht : P.underlying t = some (.slice e)) (hinfo : (P.info? e).map (fun i => (i.zero, i.size, i.bytes)) = some (some z, size, bytes)) (hzs : z.cells.size = size) (hsz : 0 < size) (hby : bytes ≤ 64)
    (lo hi : Nat) (v : Value) (n : Nat) (xs : List Value) (hown : Ow lo hi w e size v n xs) (hs : a.eval s = v) (y : Value) (m : Nat) (ys : List Value) (hy : Rd w size y m ys) (hx : a.eval x = y) (h1 : ∀ u ∈ ys, u.oneCell' = true)
    (hn : n ≤ 1099511627776) (hm : m ≤ 1099511627776) (hlo : lo ≤ w.heap.size)
    (h : ∀ v' w', Ow lo w'.heap.size w' e size v' (n + m) (xs ++ ys) → Chg lo hi w w' → K (a.put o.dst v') w') : o.wp P a w K Q := by
  have fin : ∀ (base : Nat) (v' : Value) (w' : World), lo ≤ base → w'.ownsRow base e size v' (n + m) (xs ++ ys) → Chg lo hi w w' → K (a.put o.dst v') w' := fun base v' w' hb h2 h3 => h v' w' ((Ow.of_row h2).mono hb (Nat.le_refl _)) h3
  rcases hown.cases with ⟨rfl, rfl, b, rfl⟩ | ⟨g, cap, rfl, hg1, hg2, hr⟩
  · cases b with
    | none => exact wp_pushAllB s x t e ho z size bytes ht hinfo hzs hsz hby w.heap.size _ 0 [] (World.ownsRow_nil _ _ _ _) hs y m ys hy hx h1 hn hm (Nat.le_refl _) fun v' w' h2 h3 _ => fin _ v' w' hlo h2 (Chg.of_below h3)
    | some ad =>
      obtain ⟨i, hii, hz, hs1, hb1⟩ := info_parts hinfo
      obtain ⟨b, cap, rfl, hmc, hcm⟩ := hy.form
      rcases Nat.eq_zero_or_pos m with rfl | hm0
      · have hys : ys = [] := by have := hy.length; simp at this; exact this
        subst hys
        have fc : ∀ w' : World, (Builtin.firstCells i.size 0 (.slice b 0 cap)).run P w' = .ok #[] w' := by
          intro w'
          cases b with
          | none => simp [Builtin.firstCells]
          | some b => simp [Builtin.firstCells, loadCells, loadCellsFrom]
        have hrun : (Builtin.append_ #[t, t] o.type #[.slice (some ad) 0 0, .slice b 0 cap]).run P w = .ok (.slice (some ad) 0 0) w := by
          have fc' := fc w
          simp [Builtin.append_, run_underlying ht, sizeOf, typeInfo, hii, Builtin.lenOf, fc', storeCells]
        unfold Oper.wp
        simp [execOp, ho, resolve, invoke, builtin, hs, hx, hrun, Result.andThen]
        exact h _ w (.inl ⟨rfl, rfl, _, rfl⟩) (Chg.refl _ _ _)
      · have hb2 : m * i.bytes ≤ 140737488355328 := by rw [hb1]; exact Nat.le_trans (Nat.mul_le_mul_left _ hby) (by omega)
        have hrun := append0_run (ty := o.type) ht hii ad b m cap hm0 hb2 w
        have h5 := wp_pushAllB (P := P) (w := w) (o := { o with op := .call { callee := .builtin .append, args := #[.const (.slice none 0 0), x], argTypes := #[t, t] } }) (a := a) (K := K) (Q := Q) (.const (.slice none 0 0)) x t e rfl z size bytes ht hinfo hzs hsz hby w.heap.size _ 0 [] (World.ownsRow_nil _ _ _ _) rfl _ m ys hy hx h1 hn hm (Nat.le_refl _) fun v' w' h2 h3 _ => fin _ v' w' hlo h2 (Chg.of_below h3)
        unfold Oper.wp at h5 ⊢
        simp [execOp, ho, resolve, invoke, builtin, hs, hx, hrun] at h5 ⊢
        have hc : a.eval (.const (.slice none 0 0)) = .slice none 0 0 := rfl
        rw [hc] at h5
        exact h5
  · exact wp_pushAllC s x t e ho z size bytes ht hinfo hzs hsz hby g cap n xs hr hs y m ys hy hx h1 hn hm (by have := hr.lt g rfl; omega) fun v' w' h2 h3 _ => fin _ v' w' hg1 h2 (h3.mono hg1 hg2)
theorem wpList_appendC {w : World} {ops : Array Oper} {rest : List Oper} {o : Oper} {a : Act} {Q : Exit → Act → World → Prop} (hw : Region.wanted o (yielded ops a.tmps) = true) (s x : Operand) (t e : TypeId)
    (ho : o.op = .call { callee := .builtin .append, args := #[s, x], argTypes := #[t, t] })
    (z : Value) (size bytes : Nat) (ht : P.underlying t = some (.slice e)) (hinfo : (P.info? e).map (fun i => (i.zero, i.size, i.bytes)) = some (some z, size, bytes)) (hzs : z.cells.size = size) (hsz : 0 < size) (hby : bytes ≤ 64)
    (lo hi : Nat) (v : Value) (n : Nat) (xs : List Value) (hown : Ow lo hi w e size v n xs) (hs : a.eval s = v) (y : Value) (m : Nat) (ys : List Value) (hy : Rd w size y m ys) (hx : a.eval x = y) (h1 : ∀ u ∈ ys, u.oneCell' = true)
    (hn : n ≤ 1099511627776) (hm : m ≤ 1099511627776) (hlo : lo ≤ w.heap.size)
    (h : ∀ v' w', Ow lo w'.heap.size w' e size v' (n + m) (xs ++ ys) → Chg lo hi w w' → wpList P ops Q rest (a.put o.dst v') w') : wpList P ops Q (o :: rest) a w := by
  refine wpList_step fun K hK => ?_
  rw [if_pos hw]
  exact wp_appendC s x t e ho z size bytes ht hinfo hzs hsz hby lo hi v n xs hown hs y m ys hy hx h1 hn hm hlo fun v' w' h2 h3 => hK _ _ (h v' w' h2 h3)
end Go.Proofs.YtgdggkhdollieaaDoor
