/-
  Slices of structs of three ints: how they read; what the law's helpers do with them: compare, copy, mark, look for the marks, count.
-/
import Derived.Test.YtgdggkhdollieaaDoorChecked
import Derived.Test.YtgdggkhdollieaaDoorArgs2
import Derived.Test.YtgdggkhdollieaaDoorLib3
namespace Go.Proofs.YtgdggkhdollieaaDoor
open Go.RowKit
set_option linter.unusedVariables false

def triZ : Tri := (0, 0, 0)
/-- The cells of a list of triples of ints. -/
def tris (ys : List Tri) : List Value := ys.flatMap fun y => [.int .i64 y.1, .int .i64 y.2.1, .int .i64 y.2.2]
theorem tris_cons (y : Tri) (ys : List Tri) : tris (y :: ys) = .int .i64 y.1 :: .int .i64 y.2.1 :: .int .i64 y.2.2 :: tris ys := rfl
theorem tris_append (xs ys : List Tri) : tris (xs ++ ys) = tris xs ++ tris ys := by simp [tris]
theorem tris_length (ys : List Tri) : (tris ys).length = ys.length * 3 := by
  induction ys with
  | nil => rfl
  | cons y ys ih => rw [tris_cons]; simp only [List.length_cons, ih]; omega
theorem tris_one (ys : List Tri) : ∀ u ∈ tris ys, u.oneCell' = true := by
  intro u hu
  simp only [tris, List.mem_flatMap] at hu
  obtain ⟨y, _, h⟩ := hu
  simp only [List.mem_cons, List.not_mem_nil, or_false] at h
  rcases h with rfl | rfl | rfl <;> rfl
theorem tris_get (ys : List Tri) : ∀ k, k < ys.length → (tris ys)[k * 3]? = some (.int .i64 (ys.getD k triZ).1) ∧ (tris ys)[k * 3 + 1]? = some (.int .i64 (ys.getD k triZ).2.1) ∧ (tris ys)[k * 3 + 2]? = some (.int .i64 (ys.getD k triZ).2.2) := by
  induction ys with
  | nil => intro k h; simp at h
  | cons y ys ih =>
    intro k h
    cases k with
    | zero => exact ⟨rfl, rfl, rfl⟩
    | succ k =>
      have := ih k (by simpa using h)
      rw [tris_cons, show (k + 1) * 3 = k * 3 + 1 + 1 + 1 from by omega]
      simp only [List.getElem?_cons_succ, List.getD_cons_succ]
      exact this
theorem tri_len_eq {w : World} {v : Value} {n : Nat} {ys : List Tri} (h : Rd w 3 v n (tris ys)) : ys.length = n := by
  have := h.1; rw [tris_length] at this; omega
/-- The three cells of an element of a slice of triples that is read. -/
theorem Rd.tri {w : World} {a : Option Addr} {n cap k : Nat} {ys : List Tri} (h : Rd w 3 (.slice a n cap) n (tris ys)) (hk : k < n) :
    ∃ b off, a = some ⟨b, off, none⟩ ∧ b < w.heap.size ∧ w.cell? ⟨b, off + k * 3, none⟩ = some (.int .i64 (ys.getD k triZ).1) ∧ w.cell? ⟨b, off + k * 3 + 1, none⟩ = some (.int .i64 (ys.getD k triZ).2.1) ∧ w.cell? ⟨b, off + k * 3 + 2, none⟩ = some (.int .i64 (ys.getD k triZ).2.2) := by
  have hl := tri_len_eq h
  obtain ⟨h1, a', cap', hv, _, _, h4⟩ := h
  simp only [Value.slice.injEq, true_and] at hv
  obtain ⟨rfl, rfl⟩ := hv
  obtain ⟨g0, g1, g2⟩ := tris_get ys k (by omega)
  have hlen : (tris ys).length = n * 3 := h1
  rcases h4 with h4 | ⟨b, off, rfl, hc⟩
  · rw [h4] at hlen; simp at hlen; omega
  · have c0 := hc (k * 3) (by omega); have c1 := hc (k * 3 + 1) (by omega); have c2 := hc (k * 3 + 2) (by omega)
    rw [g0] at c0; rw [g1] at c1; rw [g2] at c2
    exact ⟨b, off, rfl, World.block_lt_of_cell? w _ c0, c0, c1, c2⟩
theorem triTake_snoc (ys : List Tri) (k : Nat) (h : k < ys.length) : ys.take (k + 1) = ys.take k ++ [ys.getD k triZ] := take_snoc ys k triZ h
theorem triD_mem {ys : List Tri} {k : Nat} (h : k < ys.length) : ys.getD k triZ ∈ ys := by simp [h]

/-- Three cells in a row are set. -/
def set3 (L : List Value) (i : Nat) (a b c : Value) : List Value := ((L.set i a).set (i + 1) b).set (i + 2) c
theorem set3_mid (A R : List Value) (p q r a b c : Value) (i : Nat) (hi : A.length = i) : set3 (A ++ p :: q :: r :: R) i a b c = A ++ a :: b :: c :: R := by
  subst hi
  simp [set3, List.set_append_right, List.set_cons_succ]
/-- A list of n triples of which the first k are filled in. -/
def fillT (n k : Nat) (ys : List Tri) : List Value := tris (ys.take k) ++ tris (List.replicate (n - k) triZ)
theorem fillT_start (n : Nat) (ys : List Tri) : fillT n 0 ys = tris (List.replicate n triZ) := by simp [fillT, tris]
theorem fillT_split (n k : Nat) (ys : List Tri) (hk : k < n) : fillT n k ys = tris (ys.take k) ++ .int .i64 0 :: .int .i64 0 :: .int .i64 0 :: tris (List.replicate (n - (k + 1)) triZ) := by
  rw [fillT, show n - k = (n - (k + 1)) + 1 from by omega, List.replicate_succ, tris_cons]; rfl
theorem fillT_get (n k : Nat) (ys : List Tri) (hn : ys.length = n) (hk : k < n) : (fillT n k ys)[k * 3]? = some (.int .i64 0) ∧ (fillT n k ys)[k * 3 + 1]? = some (.int .i64 0) ∧ (fillT n k ys)[k * 3 + 2]? = some (.int .i64 0) := by
  have hl : (tris (ys.take k)).length = k * 3 := by rw [tris_length, List.length_take]; omega
  rw [fillT_split n k ys hk]
  rw [List.getElem?_append_right (by omega), List.getElem?_append_right (by omega), List.getElem?_append_right (by omega), hl, Nat.sub_self, show k * 3 + 1 - k * 3 = 1 from by omega, show k * 3 + 2 - k * 3 = 2 from by omega]
  exact ⟨rfl, rfl, rfl⟩
theorem fillT_set (n k : Nat) (ys : List Tri) (hn : ys.length = n) (hk : k < n) : set3 (fillT n k ys) (k * 3) (.int .i64 (ys.getD k triZ).1) (.int .i64 (ys.getD k triZ).2.1) (.int .i64 (ys.getD k triZ).2.2) = fillT n (k + 1) ys := by
  have hl : (tris (ys.take k)).length = k * 3 := by rw [tris_length, List.length_take]; omega
  rw [fillT_split n k ys hk, set3_mid _ _ _ _ _ _ _ _ _ hl, fillT, triTake_snoc ys k (by omega), tris_append, List.append_assoc]
  rfl
theorem fillT_all (n : Nat) (ys : List Tri) (hn : ys.length = n) : fillT n n ys = tris ys := by
  rw [fillT, List.take_of_length_le (by omega), Nat.sub_self]; simp [tris]
/-- m, m + 1, .., three by three. -/
def triSeq (m : Int) (n : Nat) : List Tri := (List.range n).map fun (i : Nat) => (m + 3 * (i : Int), m + 3 * (i : Int) + 1, m + 3 * (i : Int) + 2)
theorem triSeq_length (m : Int) (n : Nat) : (triSeq m n).length = n := by simp [triSeq]
theorem triSeq_succ (m : Int) (n : Nat) : triSeq m (n + 1) = triSeq m n ++ [(m + 3 * (n : Int), m + 3 * (n : Int) + 1, m + 3 * (n : Int) + 2)] := by simp [triSeq, List.range_succ]
theorem triSeq_getD (m : Int) (n k : Nat) (h : k < n) : (triSeq m n).getD k triZ = (m + 3 * (k : Int), m + 3 * (k : Int) + 1, m + 3 * (k : Int) + 2) := by simp [triSeq, h]
/-- The first k triples are marked. -/
def markT (m : Int) (k : Nat) (ys : List Tri) : List Value := tris (triSeq m k) ++ tris (ys.drop k)
theorem markT_split (m : Int) (k : Nat) (ys : List Tri) (hk : k < ys.length) : markT m k ys = tris (triSeq m k) ++ .int .i64 (ys.getD k triZ).1 :: .int .i64 (ys.getD k triZ).2.1 :: .int .i64 (ys.getD k triZ).2.2 :: tris (ys.drop (k + 1)) := by
  have e : ys.getD k triZ = ys[k] := by simp [hk]
  rw [markT, List.drop_eq_getElem_cons hk, tris_cons, e]
theorem markT_set (m : Int) (k : Nat) (ys : List Tri) (hk : k < ys.length) : set3 (markT m k ys) (k * 3) (.int .i64 (m + 3 * (k : Int))) (.int .i64 (m + 3 * (k : Int) + 1)) (.int .i64 (m + 3 * (k : Int) + 2)) = markT m (k + 1) ys := by
  have hl : (tris (triSeq m k)).length = k * 3 := by rw [tris_length, triSeq_length]
  rw [markT_split m k ys hk, set3_mid _ _ _ _ _ _ _ _ _ hl, markT, triSeq_succ, tris_append, List.append_assoc]
  rfl
theorem markT_length (m : Int) (k : Nat) (ys : List Tri) (hk : k ≤ ys.length) : (markT m k ys).length = ys.length * 3 := by
  rw [markT, List.length_append, tris_length, tris_length, triSeq_length, List.length_drop]; omega
theorem markT_zero (m : Int) (ys : List Tri) : markT m 0 ys = tris ys := by simp [markT, triSeq, tris]
theorem markT_all (m : Int) (ys : List Tri) : markT m ys.length ys = tris (triSeq m ys.length) := by simp [markT, tris]
theorem tris_zero (n : Nat) : tris (List.replicate n triZ) = List.replicate (n * 3) (.int .i64 0) := by
  induction n with
  | zero => rfl
  | succ n ih => rw [List.replicate_succ, tris_cons, ih, show (n + 1) * 3 = n * 3 + 1 + 1 + 1 from by omega, List.replicate_succ, List.replicate_succ, List.replicate_succ]; rfl
theorem made_tris (n : Nat) : (madeCells #[.int .i64 0, .int .i64 0, .int .i64 0] (n * 3)).toList = tris (List.replicate n triZ) := by
  rw [tris_zero]
  apply List.ext_getElem
  · simp [size_madeCells]
  · intro i h1 h2
    have h3 : i % 3 < 3 := Nat.mod_lt _ (by decide)
    simp only [madeCells, Array.toList_map, List.getElem_map, List.getElem_replicate, Array.toList_range, List.getElem_range]
    show (#[Value.int .i64 0, .int .i64 0, .int .i64 0] : Array Value)[i % 3]! = _
    match i % 3, h3 with
    | 0, _ => rfl
    | 1, _ => rfl
    | 2, _ => rfl
def WfTriS (ys : List Tri) : Prop := ∀ y ∈ ys, WfTri y
def sizeTriS (ys : List Tri) : Nat := ys.length

theorem infoEdge : (Tryd.prog.info? 34).map (fun i => (i.zero, i.size, i.bytes)) = some (some (.agg #[.int .i64 0, .int .i64 0, .int .i64 0]), 3, 24) := by kernel_rfl
abbrev RdEdgeS (w : World) (v : Value) (ys : List Tri) : Prop := Rd w 3 v ys.length (tris ys)
abbrev OwEdgeS (lo hi : Nat) (w : World) (v : Value) (ys : List Tri) : Prop := Ow lo hi w 34 3 v ys.length (tris ys)
abbrev WfEdgeS (ys : List Tri) : Prop := WfTriS ys
def cntEdgeS (ys : List Tri) : Nat := 3 * ys.length
def MkEdgeS (m : Int) (xs ys : List Tri) : Prop := ys = triSeq m xs.length
def RetEdgeS (w : World) (ys : List Tri) (e : Ending) (w' : World) : Prop := ∃ v, e = .returned v ∧ OwEdgeS w.heap.size w'.heap.size w' v ys ∧ Below w.heap.size w w'
end Go.Proofs.YtgdggkhdollieaaDoor
