/-
  A region that draws its order and in which three operations change the world, one after the other: what the world is at each step. An append, a store into a map, by what their runs are.
-/
import Derived.Test.YtgdggkhdollieaaDoorRel
import Derived.Test.YtgdggkhdollieaaDoorLib3
import Derived.Maps.AppendAt
import Derived.Maps.Own
namespace Go.Proofs.YtgdggkhdollieaaDoor
open Go.RowKit
set_option linter.unusedVariables false

/-- The three operations are a, b, c; d comes ahead of b. -/
def Stg (a b c d : Nat) (w0 wA wB wC : World) (L : Nat → Bool) (w : World) : Prop :=
  (L b = true → L a = true ∧ L d = true) ∧ (L c = true → L b = true) ∧ w = if L c then wC else if L b then wB else if L a then wA else w0
section
variable {a b c d : Nat} {w0 wA wB wC w : World} {L : Nat → Bool}
theorem Stg.start : Stg a b c d w0 wA wB wC (fun _ => false) w0 := ⟨fun h => (by cases h), fun h => (by cases h), rfl⟩
theorem setL_other {i j : Nat} (h : j ≠ i) : setL L i j = L j := by simp [setL, h]
theorem setL_self {i : Nat} : setL L i i = true := by simp [setL]
theorem Stg.other (h : Stg a b c d w0 wA wB wC L w) {i : Nat} (hi : i ≠ a ∧ i ≠ b ∧ i ≠ c) : Stg a b c d w0 wA wB wC (setL L i) w := by
  obtain ⟨h1, h2, h3⟩ := h
  have ea : setL L i a = L a := setL_other fun e => hi.1 e.symm
  have eb : setL L i b = L b := setL_other fun e => hi.2.1 e.symm
  have ec : setL L i c = L c := setL_other fun e => hi.2.2 e.symm
  refine ⟨?_, by rw [ec, eb]; exact h2, by rw [ea, eb, ec]; exact h3⟩
  rw [ea, eb]
  intro hb
  refine ⟨(h1 hb).1, ?_⟩
  by_cases e : d = i
  · subst e; exact setL_self
  · rw [setL_other e]; exact (h1 hb).2
theorem Stg.world (h : Stg a b c d w0 wA wB wC L w) : w = w0 ∨ w = wA ∨ w = wB ∨ w = wC := by
  obtain ⟨_, _, h3⟩ := h
  rw [h3]
  split
  · exact .inr (.inr (.inr rfl))
  · split
    · exact .inr (.inr (.inl rfl))
    · split
      · exact .inr (.inl rfl)
      · exact .inl rfl
theorem Stg.early (h : Stg a b c d w0 wA wB wC L w) (hd : L d = false) : w = w0 ∨ w = wA := by
  obtain ⟨h1, h2, h3⟩ := h
  have hb : L b = false := by cases e : L b with | false => rfl | true => exact absurd (h1 e).2 (by rw [hd]; decide)
  have hc : L c = false := by cases e : L c with | false => rfl | true => exact absurd (h2 e) (by rw [hb]; decide)
  rw [hb, hc] at h3
  rw [h3]
  simp only [Bool.false_eq_true, if_false]
  split
  · exact .inr rfl
  · exact .inl rfl
theorem Stg.at_a (h : Stg a b c d w0 wA wB wC L w) (ha : L a = false) (hab : b ≠ a ∧ c ≠ a) : w = w0 ∧ Stg a b c d w0 wA wB wC (setL L a) wA := by
  obtain ⟨h1, h2, h3⟩ := h
  have hb : L b = false := by cases e : L b with | false => rfl | true => exact absurd (h1 e).1 (by rw [ha]; decide)
  have hc : L c = false := by cases e : L c with | false => rfl | true => exact absurd (h2 e) (by rw [hb]; decide)
  have eb : setL L a b = false := (setL_other hab.1).trans hb
  have ec : setL L a c = false := (setL_other hab.2).trans hc
  have ea : setL L a a = true := setL_self
  exact ⟨by rw [h3, hb, hc, ha]; rfl, ⟨fun h => by (rw [eb] at h; cases h), fun h => by (rw [ec] at h; cases h), by rw [ea, eb, ec]; rfl⟩⟩
theorem Stg.at_b (h : Stg a b c d w0 wA wB wC L w) (hb : L b = false) (ha : L a = true) (hd : L d = true) (hab : a ≠ b ∧ c ≠ b ∧ d ≠ b) : w = wA ∧ Stg a b c d w0 wA wB wC (setL L b) wB := by
  obtain ⟨h1, h2, h3⟩ := h
  have hc : L c = false := by cases e : L c with | false => rfl | true => exact absurd (h2 e) (by rw [hb]; decide)
  have ea : setL L b a = true := (setL_other hab.1).trans ha
  have ec : setL L b c = false := (setL_other hab.2.1).trans hc
  have ed : setL L b d = true := (setL_other hab.2.2).trans hd
  have eb : setL L b b = true := setL_self
  exact ⟨by rw [h3, hb, hc, ha]; rfl, ⟨fun _ => ⟨ea, ed⟩, fun h => by (rw [ec] at h; cases h), by rw [ea, eb, ec]; rfl⟩⟩
theorem Stg.at_c (h : Stg a b c d w0 wA wB wC L w) (hc : L c = false) (hb : L b = true) (hab : a ≠ c ∧ b ≠ c ∧ d ≠ c) : w = wB ∧ Stg a b c d w0 wA wB wC (setL L c) wC := by
  obtain ⟨h1, h2, h3⟩ := h
  have eb : setL L c b = true := (setL_other hab.2.1).trans hb
  have ea : setL L c a = true := (setL_other hab.1).trans (h1 hb).1
  have ed : setL L c d = true := (setL_other hab.2.2).trans (h1 hb).2
  have ec : setL L c c = true := setL_self
  exact ⟨by rw [h3, hb, hc]; rfl, ⟨fun _ => ⟨ea, ed⟩, fun _ => eb, by rw [ec]; rfl⟩⟩
theorem Stg.end (h : Stg a b c d w0 wA wB wC L w) (hc : L c = true) : w = wC := by
  obtain ⟨_, _, h3⟩ := h
  rw [h3, hc]; rfl
end
section
variable {P : Program} {w w' : World} {o : Oper} {a : Act} {K : Act → World → Prop} {Q : Exit → Act → World → Prop}
theorem wp_append_run (s x : Operand) (t : TypeId) (ho : o.op = .call { callee := .builtin .append, args := #[s, x], argTypes := #[t, t] }) (v y v' : Value) (hs : a.eval s = v) (hx : a.eval x = y)
    (hrun : (Builtin.append_ #[t, t] o.type #[v, y]).run P w = .ok v' w') (h : K (a.put o.dst v') w') : o.wp P a w K Q := by
  unfold Oper.wp
  simp [execOp, ho, resolve, invoke, builtin, hs, hx, hrun, Result.andThen]
  exact h
theorem wp_mapUpdate_run (m x v : Operand) (t : TypeId) (ho : o.op = Op.mapUpdate t m x v) (mv key val : Value) (hm : a.eval m = mv) (hx : a.eval x = key) (hv : a.eval v = val)
    (hrun : (Instr.mapUpdate t mv key val).run P w = .ok () w') (h : K (a.put o.dst undef) w') : o.wp P a w K Q := by
  unfold Oper.wp
  simp [execOp, ho, hm, hx, hv, hrun, Result.andThen]
  exact h
end
theorem rows_ne {w : World} {b1 b2 s1 s2 n1 n2 : Nat} {e1 e2 : TypeId} {v1 v2 : Value} {c1 c2 : List Value} (h1 : w.ownsRow b1 e1 s1 v1 n1 c1) (h2 : w.ownsRow b2 e2 s2 v2 n2 c2) (he : e1 ≠ e2) : ∀ g, v1.ownBlock = some g → v2.ownBlock ≠ some g := by
  intro g hg hg2
  rcases h1.2 with ⟨rfl, _⟩ | ⟨g1, cap1, cur1, rfl, _, hb1, _⟩
  · simp [Value.ownBlock] at hg
  · rcases h2.2 with ⟨rfl, _⟩ | ⟨g2, cap2, cur2, rfl, _, hb2, _⟩
    · simp [Value.ownBlock] at hg2
    · simp only [Value.ownBlock, Option.some.injEq] at hg hg2
      subst hg; subst hg2
      rw [hb1] at hb2
      simp only [Option.some.injEq, Obj.cells.injEq] at hb2
      exact he hb2.2.1
theorem row_kept {w w' : World} {b s n : Nat} {e : TypeId} {v : Value} {cs : List Value} {row : Option Nat} (h : w.ownsRow b e s v n cs) (hg : w.grownBy w' row) (hr : ∀ g, v.ownBlock = some g → row ≠ some g) : w'.ownsRow b e s v n cs :=
  h.kept hg (by
    cases hb : v.ownBlock with
    | none => exact .inl rfl
    | some g => exact .inr fun e2 => hr g hb e2.symm)
end Go.Proofs.YtgdggkhdollieaaDoor
