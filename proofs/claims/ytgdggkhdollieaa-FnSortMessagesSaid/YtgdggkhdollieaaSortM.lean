/-
  The library's sort at lists of messages that are owned.
-/
import Derived.Test.YtgdggkhdollieaaTri
import Derived.Test.YtgdggkhdollieaaSortP
import Derived.Test.YtgdggkhdollieaaMsg
import Derived.Test.YtgdggkhdollieaaShelfF
import Derived.Sort.OwnSortedInts
namespace Go.Proofs.Ytgdggkhdollieaa
open Go.RowKit Go.Shelf Go.Sort
set_option linter.unusedVariables false

def encM (y : Tri) : List Value := [.int .i64 y.1, .int .i64 y.2.1, .int .i64 y.2.2]
theorem flat_tris (ys : List Tri) : (flatK encM 3 ys.toArray).toList = tris ys := by
  apply List.ext_getElem?
  intro t
  by_cases ht : t < ys.length * 3
  · have h1 : t < (flatK encM 3 ys.toArray).size := by simpa using ht
    rw [Array.getElem?_toList, Array.getElem?_eq_getElem h1]
    have h2 := get_flatK encM 3 ys.toArray t (by simpa using ht)
    have h3 : (flatK encM 3 ys.toArray)[t]! = (flatK encM 3 ys.toArray)[t] := getElem!_pos (flatK encM 3 ys.toArray) t h1
    rw [← h3, h2]
    have hk : t / 3 < ys.length := by omega
    obtain ⟨g0, g1, g2⟩ := tris_get ys (t / 3) hk
    have he : (ys.toArray[t / 3]! : Tri) = ys.getD (t / 3) triZ := by simp [hk]
    rw [he]
    have h5 : t % 3 < 3 := Nat.mod_lt _ (by decide)
    obtain h6 | h6 | h6 : t % 3 = 0 ∨ t % 3 = 1 ∨ t % 3 = 2 := by omega
    · have : (tris ys)[t]? = (tris ys)[t / 3 * 3]? := by congr 1; omega
      rw [this, g0, h6]; rfl
    · have : (tris ys)[t]? = (tris ys)[t / 3 * 3 + 1]? := by congr 1; omega
      rw [this, g1, h6]; rfl
    · have : (tris ys)[t]? = (tris ys)[t / 3 * 3 + 2]? := by congr 1; omega
      rw [this, g2, h6]; rfl
  · rw [List.getElem?_eq_none (by simpa using Nat.le_of_not_lt ht), List.getElem?_eq_none (by rw [tris_length]; omega)]
theorem heap_sortedM {w : World} {g n : Nat} {os : Array Obj} {cur : Array Value} {e : TypeId} {fr : Nat × Nat} (d : Array Value) (hb : w.heap[g]? = some (.cells cur e fr)) :
    (grow (putRow id (Sort.ahead w n) g 0 d) os).heap[g]? = some (.cells (putCells id 0 d cur) e fr) := by
  have hg : g < w.heap.size := (Array.getElem?_eq_some_iff.1 hb).1
  rw [heap_grow_old _ _ (by simpa using hg)]
  simp [putRow, mapBlock, Sort.ahead, Array.getElem?_modify, hb, onCells]
theorem grownBy_sortedM {w : World} {g n : Nat} {os : Array Obj} (d : Array Value) : w.grownBy (grow (putRow id (Sort.ahead w n) g 0 d) os) (some g) := by
  refine ⟨rfl, rfl, rfl, by simp, fun k hk hne => ?_⟩
  rw [heap_grow_old _ _ (by simpa using hk)]
  have : g ≠ k := fun e => hne (by rw [e])
  simp [putRow, mapBlock, Sort.ahead, Array.getElem?_modify, this]
theorem take_putCellsM (cur : Array Value) (ts : List Value) (h : ts.length ≤ cur.size) : (putCells id 0 ts.toArray cur).toList.take ts.length = ts := by
  apply List.ext_getElem?
  intro j
  by_cases hj : j < ts.length
  · rw [List.getElem?_take_of_lt hj, Array.getElem?_toList]
    simp [putCells, hj, show j < cur.size by omega]
  · rw [List.getElem?_take_eq_none (by omega), List.getElem?_eq_none (by omega)]
theorem ownsRow_sortedM {w : World} {base g cap n m : Nat} {e : TypeId} {os : Array Obj} {cur : Array Value} {ts : List Value} (hl : ts.length = m * 3) (hbase : base ≤ g) (hb : w.heap[g]? = some (.cells cur e (0, 0)))
    (h1 : m ≤ cap) (h2 : cap ≤ maxLen) (h3 : cur.size = cap * 3) :
    (grow (putRow id (Sort.ahead w n) g 0 ts.toArray) os).ownsRow base e 3 (.slice (some ⟨g, 0, none⟩) m cap) m ts :=
  ⟨hl, .inr ⟨g, cap, _, rfl, hbase, heap_sortedM _ hb, h1, h2, by simp [putCells, h3], by rw [← hl]; exact take_putCellsM cur ts (by omega)⟩⟩

theorem cmp_swo : SWO (ltOf cmpMsg) := by
  have e : ∀ x y, ltOf cmpMsg x y = tBefore x y := fun x y => by
    unfold ltOf; rw [Bool.eq_iff_iff, decide_eq_true_eq, cmpMsg_neg, tBefore_iff]
  have f : ∀ x y, tBefore x y = false ↔ TLe y x := fun x y => by
    rw [← Bool.not_eq_true, tBefore_iff]; exact Classical.not_not
  refine ⟨fun x => ?_, fun x y z h k => ?_, fun x y z h k => ?_⟩
  · rw [e, f]; unfold TLe; omega
  · rw [e, tBefore_iff] at *
    exact fun h2 => h (TLe.trans (TLe.of_not k) h2)
  · rw [e, f] at *
    exact k.trans h
theorem cmp_total : ∀ x y : Tri, ltOf cmpMsg x y = false → ltOf cmpMsg y x = false → x = y := fun x y h k => by
  have e : ∀ x y, ltOf cmpMsg x y = tBefore x y := fun x y => by
    unfold ltOf; rw [Bool.eq_iff_iff, decide_eq_true_eq, cmpMsg_neg, tBefore_iff]
  have f : ∀ x y, tBefore x y = false ↔ TLe y x := fun x y => by
    rw [← Bool.not_eq_true, tBefore_iff]; exact Classical.not_not
  rw [e, f] at h k
  exact k.antisymm h
theorem cmp_sort (ys : List Tri) : (ys.mergeSort fun x y => !(ltOf cmpMsg) y x) = sortT ys := by
  unfold sortT
  congr 1
  funext x y
  rw [Bool.eq_iff_iff, decide_eq_true_eq]
  unfold ltOf
  rw [Bool.not_eq_true', decide_eq_false_iff_not, cmpMsg_neg]
  exact Classical.not_not

theorem sortMsgs_any (w : World) (base : Nat) (v : Value) (ys : List Tri) (h : w.ownsRow base 33 3 v ys.length (tris ys)) (hl : ys.length ≤ 1099511627776) :
    Calls Try.prog 93 #[v, .func (.func 94) #[] #[]] w fun e w' => e = .returned (.tuple #[]) ∧ w'.ownsRow base 33 3 v ys.length (tris (sortT ys)) ∧ w.grownBy w' v.ownBlock := by
  have h0 := h
  rcases h.2 with ⟨rfl, hz⟩ | ⟨gb, cap, cur, rfl, hbase, hgb, r1, r2, r3, r4⟩
  · have hx : ys = [] := List.eq_nil_of_length_eq_zero hz
    subst hx
    refine (AnyF.slices_SortFunc_none (P := Try.prog) (ρ := sortF_ren) { sortF with } none 0 _ w).mono ?_
    rintro e w' ⟨rfl, rfl⟩
    exact ⟨rfl, by simpa [sortT] using h, ⟨rfl, rfl, rfl, Nat.le_refl _, fun _ _ _ => rfl⟩⟩
  · have hgl : gb < w.heap.size := (Array.getElem?_eq_some_iff.1 hgb).1
    have hH : HoldsK encM 3 w gb 0 ys.toArray := by
      intro j hj
      have hj3 : j < ys.length * 3 := by simpa using hj
      refine ⟨?_, by simp [World.frozen?, hgb]⟩
      rw [Nat.zero_add, h0.cellAt j hj3]
      have h1 : j < (flatK encM 3 ys.toArray).size := hj
      rw [← flat_tris ys, Array.getElem?_toList, Array.getElem?_eq_getElem h1, getElem!_pos (flatK encM 3 ys.toArray) j h1]
      rfl
    have hcmp : CmpLays Try.prog 94 #[] encM 3 cmpMsg gb 0 ys.toArray.size w := fun m os dk hdk x y => by
      refine (compareMessages_any x.1 x.2.1 x.2.2 y.1 y.2.1 y.2.2 (sortWorldK encM 3 w gb 0 m dk os)).mono ?_
      rintro e w' ⟨rfl, q, os', rfl⟩
      exact ⟨rfl, q, os', rfl⟩
    have hs := AnyQ.slices_SortFunc_total (P := Try.prog) (ρ := sortF_ren) { sortF with } 3 (fun w => by kernel_rfl) (fun w => by kernel_rfl) encM (fun _ => rfl) (fun x v hv => by
      simp only [encM, List.mem_cons, List.not_mem_nil, or_false] at hv
      rcases hv with rfl | rfl | rfl <;> rfl) cmpMsg cmp_swo 94 #[] gb 0 cap ys.toArray w (enters_of Try.func94 (by kernel_rfl) rfl) hcmp hH hgl (by simp; omega) cmp_total
    have hsz : ys.toArray.size = ys.length := by simp
    rw [hsz] at hs
    refine hs.mono ?_
    rintro e w' ⟨rfl, n, os, rfl⟩
    rw [cmp_sort]
    have e1 : sortWorldK encM 3 w gb 0 n (sortT ys).toArray os = grow (putRow id (Sort.ahead w n) gb 0 (tris (sortT ys)).toArray) os := by
      unfold sortWorldK putRowK
      congr 2
      rw [← flat_tris]
    rw [e1]
    exact ⟨rfl, ownsRow_sortedM (by rw [tris_length, sortT_length]) hbase hgb r1 r2 r3, grownBy_sortedM _⟩
end Go.Proofs.Ytgdggkhdollieaa
