/-
  A queue: a slice of ints that begins anywhere in its block; append and its beginning taken away.
-/
import Derived.Test.YtgdggkhdollieaaDoorInts
import Derived.Test.YtgdggkhdollieaaDoorLib3
import Derived.ArgAppend
namespace Go.Proofs.YtgdggkhdollieaaDoor
open Go.RowKit
set_option linter.unusedVariables false

/-- A slice of ints that begins at 'off' in a block of its own. -/
def QRow (w : World) (bq off cap : Nat) (Q : List Int) : Prop :=
  ∃ cur : Array Value, w.heap[bq]? = some (.cells cur 3 (0, 0)) ∧ Q.length ≤ cap ∧ cap ≤ maxLen ∧ off + cap ≤ cur.size ∧ ∀ i, i < Q.length → cur[off + i]? = some (.int .i64 (Q.getD i 0))
theorem QRow.lt {w : World} {bq off cap : Nat} {Q : List Int} (h : QRow w bq off cap Q) : bq < w.heap.size := by
  obtain ⟨cur, h1, _⟩ := h; exact box_lt h1
theorem QRow.le {w : World} {bq off cap : Nat} {Q : List Int} (h : QRow w bq off cap Q) : Q.length ≤ cap ∧ cap ≤ 9223372036854775807 := by
  obtain ⟨cur, h1, h2, h3, _⟩ := h; unfold maxLen at h3; omega
theorem QRow.cell {w : World} {bq off cap : Nat} {Q : List Int} (h : QRow w bq off cap Q) {i : Nat} (hi : i < Q.length) : w.cell? ⟨bq, off + i, none⟩ = some (.int .i64 (Q.getD i 0)) := by
  obtain ⟨cur, h1, _, _, _, h5⟩ := h
  rw [cell_of_row w bq _ cur _ _ h1]; exact h5 i hi
theorem QRow.keep {w w' : World} {bq off cap : Nat} {Q : List Int} (h : QRow w bq off cap Q) (hb : Below w.heap.size w w') : QRow w' bq off cap Q := by
  obtain ⟨cur, h1, r⟩ := h; exact ⟨cur, box_keep h1 hb, r⟩
theorem QRow.chg {w w' : World} {bq off cap lo hi : Nat} {Q : List Int} (h : QRow w bq off cap Q) (hc : Chg lo hi w w') (hd : bq < lo ∨ hi ≤ bq) : QRow w' bq off cap Q := by
  obtain ⟨cur, h1, r⟩ := h; exact ⟨cur, (hc.block _ (box_lt h1) hd).trans h1, r⟩
theorem QRow.one (w : World) (x : Int) : QRow (w.alloc (.cells #[.int .i64 x] 3)) w.heap.size 0 1 [x] :=
  ⟨_, heap_alloc_new w _, Nat.le_refl _, by decide, Nat.le_refl _, fun i hi => by
    have : i = 0 := by simpa using hi
    subst this; rfl⟩
theorem QRow.tail {w : World} {bq off cap : Nat} {x : Int} {Q : List Int} (h : QRow w bq off cap (x :: Q)) : QRow w bq (off + 1) (cap - 1) Q := by
  obtain ⟨cur, h1, h2, h3, h4, h5⟩ := h
  simp only [List.length_cons] at h2
  refine ⟨cur, h1, by omega, by omega, by omega, fun i hi => ?_⟩
  have := h5 (i + 1) (by simp; omega)
  rw [show off + 1 + i = off + (i + 1) by omega, this]; simp

/-- What is left behind the first: at the end of the room the address stays. -/
theorem QRow.cut {w : World} {bq off cap : Nat} {x : Int} {Q : List Int} (h : QRow w bq off cap (x :: Q)) : ∃ off', (if cap = 1 then some (⟨bq, off, none⟩ : Addr) else some ⟨bq, off + 1, none⟩) = some ⟨bq, off', none⟩ ∧ Hid (QRow w bq off' (cap - 1) Q) := by
  by_cases hc : cap = 1
  · refine ⟨off, if_pos hc, Lib.hid ?_⟩
    have hl := h.le
    have hq : Q = [] := by
      cases Q with
      | nil => rfl
      | cons y ys => simp at hl; omega
    obtain ⟨cur, h1, h2, h3, h4, h5⟩ := h
    subst hc; subst hq
    exact ⟨cur, h1, Nat.le_refl _, by decide, by omega, fun i hi => by simp at hi⟩
  · exact ⟨off + 1, if_neg hc, Lib.hid h.tail⟩
/-- Vertices as ints. -/
def qs (Q : List Nat) : List Int := Q.map fun (u : Nat) => (u : Int)
theorem qs_length (Q : List Nat) : (qs Q).length = Q.length := by simp [qs]
theorem qs_snoc (Q : List Nat) (b : Nat) : qs (Q ++ [b]) = qs Q ++ [(b : Int)] := by simp [qs]
theorem qs_getD {Q : List Nat} {j : Nat} (h : j < Q.length) : (qs Q).getD j 0 = ((Q.getD j 0 : Nat) : Int) := by simp [qs, h]
theorem getD_inQ {α : Type} {l : List α} {j : Nat} {d : α} (h : j < l.length) : l.getD j d ∈ l := by
  rw [List.getD_eq_getElem?_getD, List.getElem?_eq_getElem h]; exact List.getElem_mem h
/-- A row that is owned, and whose block is not among those that change. -/
theorem own_side {lo hi b n c s : Nat} {w w' : World} {e : TypeId} {cs : List Value} (h : w.ownsRow b e s (.slice (some ⟨b, 0, none⟩) n c) n cs) (hc : Chg lo hi w w') (hd : b < lo ∨ hi ≤ b) : w'.ownsRow b e s (.slice (some ⟨b, 0, none⟩) n c) n cs := by
  refine ⟨h.1, ?_⟩
  rcases h.2 with h2 | ⟨g, cap, cur, hv, hb, hg, r⟩
  · exact .inl h2
  · have hgb : g = b := by simp only [Value.slice.injEq, Option.some.injEq, Addr.mk.injEq] at hv; exact hv.1.1.symm
    subst hgb
    exact .inr ⟨g, cap, cur, hv, hb, (hc.block g (Array.getElem?_eq_some_iff.1 hg).1 hd).trans hg, r⟩
/-- What an int's cells hold, read off the world. -/
def cellI : Option Value → Int
  | some (.int _ z) => z
  | _ => 0
def rowI (w : World) (b n : Nat) : List Int := (List.range n).map fun i => cellI (w.cell? ⟨b, i, none⟩)
theorem rowI_eq {w : World} {b n c : Nat} {e : TypeId} {D : List Int} (h : w.ownsRow b e 1 (.slice (some ⟨b, 0, none⟩) n c) n (ints D)) (hl : D.length = n) : rowI w b n = D := by
  refine List.ext_getElem (by simp [rowI, hl]) fun i h1 h2 => ?_
  have hi : i < n := by omega
  have hc := h.cellAt i (by omega)
  rw [ints_get D i h2] at hc
  simp only [rowI, List.getElem_map, List.getElem_range]
  have e : (D.getD i 0) = D[i] := by simp [h2]
  rw [hc, e]; rfl
def sliceLen : Value → Nat
  | .slice _ n _ => n
  | _ => 0

section
variable {P : Program}
theorem wp_appendQ {w : World} {o : Oper} {a : Act} {K : Act → World → Prop} {Q : Exit → Act → World → Prop} (s x : Operand) (t : TypeId)
    (ho : o.op = .call { callee := .builtin .append, args := #[s, x], argTypes := #[t, t] })
    (ht : P.underlying t = some (.slice 3)) (hinfo : (P.info? 3).map (fun i => (i.zero, i.size, i.bytes)) = some (some (.int .i64 0), 1, 8))
    (bq off cap : Nat) (xs : List Int) (hq : QRow w bq off cap xs) (hs : a.eval s = .slice (some ⟨bq, off, none⟩) xs.length cap) (b : Nat) (z : Int) (hx : a.eval x = .slice (some ⟨b, 0, none⟩) 1 1) (hz : w.cell? ⟨b, 0, none⟩ = some (.int .i64 z)) (hn : xs.length ≤ 1099511627776)
    (h : ∀ bq' off' cap' w', QRow w' bq' off' cap' (xs ++ [z]) → (bq' = bq ∨ w.heap.size ≤ bq') → Chg bq (bq + 1) w w' → K (a.put o.dst (.slice (some ⟨bq', off', none⟩) (xs.length + 1) cap')) w') : o.wp P a w K Q := by
  obtain ⟨i, hi, hz0, hs1, hb1⟩ := info_parts hinfo
  have hz' : ∀ j u, [Value.int .i64 z][j]? = some u → w.cell? ((⟨b, 0, none⟩ : Addr).add j) = some u := by
    intro j u hj
    match j with
    | 0 => simp at hj; subst hj; simpa [Addr.add] using hz
    | j + 1 => simp at hj
  obtain ⟨cur, h1, h2, h3, h4, h5⟩ := hq
  by_cases hroom : xs.length + 1 ≤ cap
  · have hin : off + xs.length < cur.size := by omega
    have hc0 : w.cell? ⟨bq, off + xs.length, none⟩ = some cur[off + xs.length] := by rw [cell_of_row w bq _ cur _ _ h1]; simp [hin]
    have hfr := frozen_of_row w bq (off + xs.length) cur _ h1
    have hrun := run_append_room_cells (P := P) w t o.type 3 i ht hi bq off xs.length cap ⟨b, 0, none⟩ 1 1 [.int .i64 z] (by rw [hs1]; rfl) hz' (by simp [Value.oneCell']) hroom
      (fun j hj => by
        have : j = 0 := by simpa using hj
        subst this; rw [hs1, Nat.mul_one, Nat.add_zero, hc0]; rfl)
      (fun j hj => by
        have : j = 0 := by simpa using hj
        subst this; rw [hs1, Nat.mul_one, Nat.add_zero, hfr])
    rw [hs1, Nat.mul_one] at hrun
    have hsc : w.setCells bq (off + xs.length) [.int .i64 z] = w.setCell ⟨bq, off + xs.length, none⟩ (.int .i64 z) := rfl
    rw [hsc] at hrun
    unfold Oper.wp
    simp [execOp, ho, resolve, invoke, builtin, hs, hx, hrun, Result.andThen]
    refine h bq off cap _ ⟨_, box_set h1 _ _, by simp; omega, h3, by simpa using h4, fun j hj => ?_⟩ (.inl rfl) (Chg.setCell (p := ⟨bq, off + xs.length, none⟩) (Nat.le_refl _) (Nat.lt_succ_self _) _)
    simp only [List.length_append, List.length_singleton] at hj
    by_cases e : j = xs.length
    · subst e; simp [hin]
    · have hj2 : j < xs.length := by omega
      have hne : ¬ off + xs.length = off + j := by omega
      rw [Array.getElem?_setIfInBounds_ne hne, h5 j hj2]
      simp [hj2, List.getElem?_append_left]
  · have holds : ∀ j u, (ints xs)[j]? = some u → w.cell? ((⟨bq, off, none⟩ : Addr).add j) = some u := by
      intro j u hj
      have hjl : j < xs.length := by have := (List.getElem?_eq_some_iff.1 hj).1; rwa [ints_length] at this
      rw [add_lit', cell_of_row w bq _ cur _ _ h1, h5 j hjl]
      rw [ints_get xs j hjl] at hj; exact hj
    obtain ⟨v', w', hrun, hown, hgr⟩ := run_append_arg_grows (P := P) w t o.type 3 i (.int .i64 0) 1 8 ht hi hz0 hs1 hb1 rfl (by decide) ⟨bq, off, none⟩ xs.length cap (ints xs) (by rw [ints_length]; omega) holds ⟨b, 0, none⟩ 1 1 [.int .i64 z] rfl hz' (by omega) (by unfold maxLen; omega) (by omega)
    unfold Oper.wp
    simp [execOp, ho, resolve, invoke, builtin, hs, hx, hrun, Result.andThen]
    rcases hown.2 with ⟨hv, hn0⟩ | ⟨g, c9, cur9, rfl, hb9, hg9, hn9, hm9, hs9, ht9⟩
    · omega
    · refine h g 0 c9 w' ⟨cur9, hg9, by simpa using hn9, hm9, by omega, fun j hj => ?_⟩ (.inr hb9) ⟨hgr.os, hgr.tape, hgr.output, hgr.size, fun k hk _ => hgr.block k hk (by simp)⟩
      have h8 : cur9.toList.take (xs.length + 1) = ints (xs ++ [z]) := by rw [Nat.mul_one] at ht9; rw [ht9, ints_append]; rfl
      have h7 := ints_get (xs ++ [z]) j hj
      rw [← h8, List.getElem?_take, if_pos (by simpa using hj)] at h7
      rw [Nat.zero_add]; simpa using h7
theorem wpList_appendQ {w : World} {ops : Array Oper} {rest : List Oper} {o : Oper} {a : Act} {Q : Exit → Act → World → Prop} (hw : Region.wanted o (yielded ops a.tmps) = true) (s x : Operand) (t : TypeId)
    (ho : o.op = .call { callee := .builtin .append, args := #[s, x], argTypes := #[t, t] })
    (ht : P.underlying t = some (.slice 3)) (hinfo : (P.info? 3).map (fun i => (i.zero, i.size, i.bytes)) = some (some (.int .i64 0), 1, 8))
    (bq off cap : Nat) (xs : List Int) (hq : QRow w bq off cap xs) (n : Nat) (hnx : xs.length = n) (hs : a.eval s = .slice (some ⟨bq, off, none⟩) n cap) (b : Nat) (z : Int) (hx : a.eval x = .slice (some ⟨b, 0, none⟩) 1 1) (hz : w.cell? ⟨b, 0, none⟩ = some (.int .i64 z)) (hn : xs.length ≤ 1099511627776)
    (h : ∀ bq' off' cap' w', QRow w' bq' off' cap' (xs ++ [z]) → (bq' = bq ∨ w.heap.size ≤ bq') → Chg bq (bq + 1) w w' → wpList P ops Q rest (a.put o.dst (.slice (some ⟨bq', off', none⟩) (n + 1) cap')) w') : wpList P ops Q (o :: rest) a w := by
  subst hnx
  refine wpList_step fun K hK => ?_
  rw [if_pos hw]
  exact wp_appendQ s x t ho ht hinfo bq off cap xs hq hs b z hx hz hn fun b' o' c' w' h2 h3 h4 => hK _ _ (h b' o' c' w' h2 h3 h4)
end
end Go.Proofs.YtgdggkhdollieaaDoor
