/-
  More on slices that are read: an element, a part; a list of ints in which one is set.
-/
import Derived.Test.YtgdggkhdollieaaDoorLib
import Derived.BigQuiet
import Derived.Deep.QuietTactic
namespace Go.Proofs.YtgdggkhdollieaaDoor
open Go.RowKit

theorem Rd.len_eq {w : World} {v : Value} {n : Nat} {xs : List Int} (h : Rd w 1 v n (ints xs)) : xs.length = n := by
  have := h.1; rw [ints_length] at this; omega
theorem Rd.of_eq {w : World} {v : Value} {n : Nat} {xs : List Int} (h : Rd w 1 v n (ints xs)) : Rd w 1 v xs.length (ints xs) := by rw [h.len_eq]; exact h
theorem Rd.form {w : World} {v : Value} {size n : Nat} {cs : List Value} (h : Rd w size v n cs) : ∃ a cap, v = .slice a n cap ∧ n ≤ cap ∧ cap ≤ 9223372036854775807 := by
  obtain ⟨_, a, cap, rfl, h2, h3, _⟩ := h
  exact ⟨a, cap, rfl, h2, by unfold maxLen at h3; omega⟩
/-- An element of an int slice that is read. -/
theorem Rd.at_ {w : World} {a : Option Addr} {n cap k : Nat} {xs : List Int} (h : Rd w 1 (.slice a n cap) n (ints xs)) (hk : k < n) :
    ∃ b off, a = some ⟨b, off, none⟩ ∧ b < w.heap.size ∧ w.cell? ⟨b, off + k, none⟩ = some (.int .i64 (xs.getD k 0)) := by
  have hl := h.len_eq
  subst hl
  obtain ⟨a', cap', hv, _, _, H⟩ := h.int
  simp only [Value.slice.injEq, true_and] at hv
  obtain ⟨rfl, rfl⟩ := hv
  exact H.out k hk
/-- A part of an int slice that is read. -/
theorem Rd.sub {w : World} {b off n cap : Nat} {xs : List Int} (h : Rd w 1 (.slice (some ⟨b, off, none⟩) n cap) n (ints xs)) (lo m : Nat) (hm : lo + m ≤ n) :
    Rd w 1 (.slice (some ⟨b, off + lo, none⟩) m (cap - lo)) m (ints ((xs.drop lo).take m)) := by
  have hl := h.len_eq
  obtain ⟨h1, a', cap', hv, h2, h3, h4⟩ := h
  simp only [Value.slice.injEq, true_and] at hv
  obtain ⟨rfl, rfl⟩ := hv
  have hlen : (ints ((xs.drop lo).take m)).length = m := by rw [ints_length, List.length_take, List.length_drop]; omega
  refine ⟨by omega, _, _, rfl, by omega, by omega, ?_⟩
  by_cases h0 : m = 0
  · left; apply List.eq_nil_of_length_eq_zero; omega
  · right
    refine ⟨b, off + lo, rfl, fun i hi => ?_⟩
    rcases h4 with h4 | ⟨b', off', hb, hc⟩
    · rw [h4] at h1; simp at h1; omega
    · simp only [Option.some.injEq, Addr.mk.injEq, and_true] at hb
      obtain ⟨rfl, rfl⟩ := hb
      rw [Nat.add_assoc, hc (lo + i) (by rw [ints_length]; omega)]
      simp only [ints, List.getElem?_map, List.getElem?_take, List.getElem?_drop]
      rw [if_pos (by omega)]
theorem ints_set (xs : List Int) (k : Nat) (z : Int) : (ints xs).set k (.int .i64 z) = ints (xs.set k z) := by simp [ints, List.map_set]
theorem getD_set_self (xs : List Int) (k : Nat) (z : Int) (h : k < xs.length) : (xs.set k z).getD k 0 = z := by simp [h]
/-- What an owned row of n > 0 elements looks like. -/
theorem own_form {w : World} {base size n : Nat} {e : TypeId} {v : Value} {cs : List Value} (h : w.ownsRow base e size v n cs) (hn : 0 < n) : ∃ g cap, v = .slice (some ⟨g, 0, none⟩) n cap ∧ base ≤ g ∧ g < w.heap.size ∧ n ≤ cap ∧ cap ≤ 9223372036854775807 := by
  rcases h.2 with ⟨rfl, rfl⟩ | ⟨g, cap, cur, rfl, hb, hg, hn, hm, hs, ht⟩
  · omega
  · exact ⟨g, cap, rfl, hb, (Array.getElem?_eq_some_iff.1 hg).1, hn, by unfold maxLen at hm; omega⟩

/-- A literal list, in a block of its own. -/
theorem ownsRow_lit {base size : Nat} {e : TypeId} (w : World) (cur : Array Value) (n : Nat) (hb : base ≤ w.heap.size) (hm : n ≤ maxLen) (hs : cur.size = n * size) :
    (w.alloc (.cells cur e)).ownsRow base e size (.slice (some ⟨w.heap.size, 0, none⟩) n n) n cur.toList :=
  ⟨by simp [hs], .inr ⟨w.heap.size, n, cur, rfl, hb, heap_alloc_new w _, Nat.le_refl _, hm, hs, List.take_of_length_le (by simp [hs])⟩⟩
theorem ow_nil_ret {w w' : World} (h : Below w.heap.size w w') (a : Option Addr) (e : TypeId) (size : Nat) : Ow w.heap.size w'.heap.size w' e size (.slice a 0 0) 0 [] ∧ Below w.heap.size w w' := ⟨Ow.nil _ _ _ _ _ _, h⟩
/-- A world that has come of w; below block B nothing has changed. -/
structure GrownW (B : Nat) (w : World) where
  v : World
  h : Below B w v
instance (B : Nat) (w : World) : Inhabited (GrownW B w) := ⟨⟨w, Below.refl B w⟩⟩
/-- A region that draws its order, whose operations only read, and whose callees leave alone what lies below block B: one walk, in the order of the text. -/
theorem wp_region_grown {P : Program} {id : Nat} {Q : Exit → Act → World → Prop} {a : Act} {w : World} {l : List Oper} (B : Nat) (hm : P.follows .mixedOrders = true) (hB : Region.lexB .any l.toArray = true)
    (h : wpQuiet P l.toArray (fun w' => ∃ p : GrownW B w, w' = p.v) (fun a' => ∀ w', (∃ p : GrownW B w, w' = p.v) → Q .normal a' w') l a) : (Code.region id l.toArray true).wp P Q a w :=
  wp_region_quiet (C := fun w' => ∃ p : GrownW B w, w' = p.v) hm hB ⟨⟨_, (Below.refl B w).drew⟩, rfl⟩ (by simpa using h)
theorem wpQuiet_done {P : Program} {ops : Array Oper} {B : Nat} {w : World} {a : Act} {C : World → Prop} {Q : Act → World → Prop} (h : ∀ w', Below B w w' → Q a w') : wpQuiet P ops C (fun a' => ∀ w', (∃ p : GrownW B w, w' = p.v) → Q a' w') [] a :=
  wpQuiet_nil fun _ ⟨p, hp⟩ => by rw [hp]; exact h _ p.h
theorem GrownW.cell {B : Nat} {w : World} {b o : Nat} {u : Value} (h : w.cell? ⟨b, o, none⟩ = some u) (hb : b < B) (p : GrownW B w) : p.v.cell? ⟨b, o, none⟩ = some u := (p.h.cell (p := ⟨b, o, none⟩) hb).trans h
/-- What a callee's contract is turned into there. -/
theorem GrownW.call {P : Program} {f : FuncId} {args : Array Value} {B : Nat} {w : World} {u : Value} {p : GrownW B w} (hB : B ≤ w.heap.size)
    (h : Calls P f args p.v fun e w' => e = .returned u ∧ Below p.v.heap.size p.v w') : Calls P f args p.v fun e w'' => e = .returned u ∧ ∃ q : GrownW B w, w'' = q.v :=
  h.mono fun _ w' ⟨he, hb⟩ => ⟨he, ⟨w', p.h.trans (hb.mono (Nat.le_trans hB p.h.size))⟩, rfl⟩
theorem GrownW.call_same {P : Program} {f : FuncId} {args : Array Value} {B : Nat} {w : World} {u : Value} {p : GrownW B w}
    (h : Calls P f args p.v fun e w' => e = .returned u ∧ p.v = w') : Calls P f args p.v fun e w'' => e = .returned u ∧ ∃ q : GrownW B w, w'' = q.v :=
  h.mono fun _ _ ⟨he, hb⟩ => ⟨he, ⟨p.v, p.h⟩, hb.symm⟩
end Go.Proofs.YtgdggkhdollieaaDoor
