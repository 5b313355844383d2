/-
  Lists of triples that are owned, each in a block of its own: a family; one of them is appended to.
-/
import Derived.Test.YtgdggkhdollieaaDoorTri
import Derived.Test.YtgdggkhdollieaaDoorLib3
import Derived.Maps.AppendAt
namespace Go.Proofs.YtgdggkhdollieaaDoor
open Go.RowKit
set_option linter.unusedVariables false

/-- Every member is owned from block lo on; no two lie in one block. -/
structure Fam {ι : Type} (lo : Nat) (w : World) (e : TypeId) (bk : ι → Value) (cs : ι → List Tri) : Prop where
  own : ∀ i, w.ownsRow lo e 3 (bk i) (cs i).length (tris (cs i))
  apart : ∀ i j g, i ≠ j → (bk i).ownBlock = some g → (bk j).ownBlock ≠ some g
section
variable {ι : Type} {lo : Nat} {w w' : World} {e : TypeId} {bk : ι → Value} {cs : ι → List Tri}
theorem Fam.start (lo : Nat) (w : World) (e : TypeId) : Fam lo w e (fun _ : ι => .slice none 0 0) fun _ => [] :=
  ⟨fun _ => World.ownsRow_nil _ _ _ _, fun _ _ _ _ h => by simp [Value.ownBlock] at h⟩
theorem Fam.kept {row : Option Nat} (h : Fam lo w e bk cs) (hg : w.grownBy w' row) (hr : ∀ r, row = some r → r < lo) : Fam lo w' e bk cs :=
  ⟨fun i => (h.own i).kept hg (by
    cases hb : (bk i).ownBlock with
    | none => exact .inl rfl
    | some g =>
      right
      intro e2
      have := hr g e2.symm
      have := ((h.own i).lt g hb).1
      omega), h.apart⟩
theorem Fam.keep (h : Fam lo w e bk cs) (hb : Below w.heap.size w w') : Fam lo w' e bk cs := ⟨fun i => ownsRow_keep (h.own i) hb, h.apart⟩
theorem Fam.chg {lo' hi' : Nat} (h : Fam lo w e bk cs) (hc : Chg lo' hi' w w') (hd : hi' ≤ lo) : Fam lo w' e bk cs := ⟨fun i => ownsRow_chg (h.own i) hc hd, h.apart⟩
theorem Fam.lt (h : Fam lo w e bk cs) (i : ι) : ∀ k, (bk i).ownBlock = some k → lo ≤ k ∧ k < w.heap.size := (h.own i).lt
variable [DecidableEq ι]
/-- One member has been written or has grown. -/
theorem Fam.put (h : Fam lo w e bk cs) (i : ι) {v' : Value} {ys : List Tri} (ho : w'.ownsRow lo e 3 v' ys.length (tris ys)) (hg : w.grownBy w' (bk i).ownBlock) (hb : v'.ownBlock = (bk i).ownBlock ∨ v'.ownBlock = some w.heap.size) :
    Fam lo w' e (fun j => if j = i then v' else bk j) fun j => if j = i then ys else cs j := by
  refine ⟨fun j => ?_, fun j k g hjk hj hk => ?_⟩
  · by_cases e1 : j = i
    · simp only [if_pos e1]; exact ho
    · simp only [if_neg e1]
      refine (h.own j).kept hg ?_
      cases hb2 : (bk j).ownBlock with
      | none => exact .inl rfl
      | some g => exact .inr fun e2 => h.apart j i g e1 hb2 e2.symm
  · have hne : ∀ j, j ≠ i → (bk j).ownBlock = some g → v'.ownBlock = some g → False := fun j e1 h1 h2 => by
      rcases hb with h3 | h3
      · exact h.apart j i g e1 h1 (h3.symm.trans h2)
      · have h4 := (h.lt j g h1).2
        have h5 : w.heap.size = g := by simpa using h3.symm.trans h2
        omega
    by_cases e1 : j = i
    · have e2 : ¬ k = i := fun e2 => hjk (e1.trans e2.symm)
      simp only [if_pos e1] at hj; simp only [if_neg e2] at hk
      exact hne k e2 hk hj
    · by_cases e2 : k = i
      · simp only [if_neg e1] at hj; simp only [if_pos e2] at hk
        exact hne j e1 hj hk
      · simp only [if_neg e1] at hj; simp only [if_neg e2] at hk
        exact h.apart j k g hjk hj hk
end
/-- A member that is there has its three cells. -/
theorem Fam.form {ι : Type} {lo : Nat} {w : World} {e : TypeId} {bk : ι → Value} {cs : ι → List Tri} (h : Fam lo w e bk cs) (i : ι) : ∃ a cap, bk i = .slice a (cs i).length cap ∧ (cs i).length ≤ cap ∧ cap ≤ 9223372036854775807 ∧ Rd w 3 (.slice a (cs i).length cap) (cs i).length (tris (cs i)) := by
  have hr := Rd.of_own (h.own i)
  obtain ⟨a, cap, e1, h2, h3⟩ := hr.form
  rw [e1] at hr
  exact ⟨a, cap, e1, h2, h3, hr⟩
end Go.Proofs.YtgdggkhdollieaaDoor
