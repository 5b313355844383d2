/-
  The neighbours of a vertex: the reference's function.
-/
import Derived.Test.YtgdggkhdollieaaDoorGraphV
import Derived.Test.YtgdggkhdollieaaDoorInts
namespace Go.Proofs.YtgdggkhdollieaaDoor
open Go.RowKit
set_option linter.unusedVariables false

/-- v and u are neighbours. -/
def nearQ (ys : List Tri) (v : Int) (u : Nat) : Bool := ys.any fun e => (decide (e.1 = v) && decide (e.2.1 = (u : Int))) || (decide (e.1 = (u : Int)) && decide (e.2.1 = v))
def nearTo (ys : List Tri) (v : Int) (t : Nat) : List Int := ((List.range t).filter (nearQ ys v)).map fun (u : Nat) => (u : Int)
def nearOf (g : GraphD) (v : Int) : List Int := if graphOk g = true then nearTo g.2 v g.1.toNat else []
theorem nearTo_yes (ys : List Tri) (v : Int) (t : Nat) (h : nearQ ys v t = true) : nearTo ys v (t + 1) = nearTo ys v t ++ [(t : Int)] := by
  simp [nearTo, List.range_succ, List.filter_append, h]
theorem nearTo_no (ys : List Tri) (v : Int) (t : Nat) (h : nearQ ys v t = false) : nearTo ys v (t + 1) = nearTo ys v t := by
  simp [nearTo, List.range_succ, List.filter_append, h]
theorem nearTo_length (ys : List Tri) (v : Int) (t : Nat) : (nearTo ys v t).length ≤ t := by
  unfold nearTo; rw [List.length_map]; exact Nat.le_trans (List.length_filter_le _ _) (by simp)
theorem nearOf_length (g : GraphD) (v : Int) : (nearOf g v).length ≤ 16 := by
  unfold nearOf; split
  · rename_i h
    have h1 := nearTo_length g.2 v g.1.toNat
    have h2 := (graphOk_yes h).1
    omega
  · simp
theorem nearQ_snoc (ys : List Tri) (v : Int) (u k : Nat) (hk : k < ys.length) : nearQ (ys.take (k + 1)) v u =
    (nearQ (ys.take k) v u || ((decide ((ys.getD k triZ).1 = v) && decide ((ys.getD k triZ).2.1 = (u : Int))) || (decide ((ys.getD k triZ).1 = (u : Int)) && decide ((ys.getD k triZ).2.1 = v)))) := by
  unfold nearQ
  rw [triTake_snoc ys k hk, List.any_append]
  simp

end Go.Proofs.YtgdggkhdollieaaDoor
