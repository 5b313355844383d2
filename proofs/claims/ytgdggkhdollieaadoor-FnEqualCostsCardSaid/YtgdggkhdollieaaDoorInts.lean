/-
  What the law's helpers on lists of ints do: compare, copy, mark, look for the marks, count.
-/
import Derived.Test.YtgdggkhdollieaaDoorChecked
import Derived.Test.YtgdggkhdollieaaDoorLib
namespace Go.Proofs.YtgdggkhdollieaaDoor
open Go.RowKit

theorem infoInt : (Tryd.prog.info? 3).map (fun i => (i.zero, i.size, i.bytes)) = some (some (.int .i64 0), 1, 8) := by kernel_rfl

/-- A list of ints is handed back in new memory; all that was there stays. -/
def RetI (w : World) (xs : List Int) (e : Ending) (w' : World) : Prop :=
  ∃ v, e = .returned v ∧ Ow w.heap.size w'.heap.size w' 3 1 v xs.length (ints xs) ∧ Below w.heap.size w w'

/-- A list of ints that is read; one that is owned; no condition; how many marks it takes; its marks. -/
abbrev RdIntS (w : World) (v : Value) (xs : List Int) : Prop := Rd w 1 v xs.length (ints xs)
abbrev OwIntS (lo hi : Nat) (w : World) (v : Value) (xs : List Int) : Prop := Ow lo hi w 3 1 v xs.length (ints xs)
def WfIntS (xs : List Int) : Prop := ∀ x ∈ xs, In64 x
def cntIntS (xs : List Int) : Nat := xs.length
/-- m, m + 1, .. -/
def seqI (m : Int) (n : Nat) : List Int := (List.range n).map fun (i : Nat) => m + (i : Int)
theorem seqI_length (m : Int) (n : Nat) : (seqI m n).length = n := by simp [seqI]
theorem seqI_succ (m : Int) (n : Nat) : seqI m (n + 1) = seqI m n ++ [m + (n : Int)] := by simp [seqI, List.range_succ]
theorem seqI_getD (m : Int) (n k : Nat) (h : k < n) : (seqI m n).getD k 0 = m + (k : Int) := by simp [seqI, h]
def MkIntS (m : Int) (xs ys : List Int) : Prop := ys = seqI m xs.length



/-- The first k cells are marked. -/
def markTo (m : Int) (k : Nat) (cs : List Value) : List Value := ints (seqI m k) ++ cs.drop k
theorem markTo_zero (m : Int) (cs : List Value) : markTo m 0 cs = cs := by simp [markTo, seqI, ints]
theorem markTo_all (m : Int) (n : Nat) (cs : List Value) (h : cs.length = n) : markTo m n cs = ints (seqI m n) := by simp [markTo, ← h]
theorem markTo_set (m : Int) (k : Nat) (cs : List Value) (h : k < cs.length) : (markTo m k cs).set k (.int .i64 (m + (k : Int))) = markTo m (k + 1) cs := by
  have hl : (ints (seqI m k)).length = k := by rw [ints_length, seqI_length]
  have hd : cs.drop k = cs[k] :: cs.drop (k + 1) := by rw [List.drop_eq_getElem_cons h]
  rw [markTo, List.set_append_right _ _ (by omega), hl, Nat.sub_self, hd, List.set_cons_zero, markTo, seqI_succ, ints_append]
  simp [ints]
theorem markTo_get (m : Int) (k : Nat) (cs : List Value) (h : k < cs.length) : ∃ u, (markTo m k cs)[k]? = some u := by
  have hl : (ints (seqI m k)).length = k := by rw [ints_length, seqI_length]
  have hd : k < (markTo m k cs).length := by rw [markTo, List.length_append, hl, List.length_drop]; omega
  exact ⟨_, List.getElem?_eq_getElem hd⟩

end Go.Proofs.YtgdggkhdollieaaDoor
