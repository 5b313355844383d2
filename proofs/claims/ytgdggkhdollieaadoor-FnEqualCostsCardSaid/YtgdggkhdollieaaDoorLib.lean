/-
  Plain lemmas on memory for the walks of this seat: a slice that is read (Rd), a slice that is owned (Ow), a world that has changed in some blocks alone (Chg). Nothing of the program is named here.
-/
import Derived.WalkKit
import Derived.WalkSpells
import Derived.WalkLawsBesides
import Derived.BigQuiet
import Derived.Deep.QuietTactic
import Derived.Lib.Hide
import Derived.Handy
namespace Go.Proofs.YtgdggkhdollieaaDoor
open Go.RowKit

/-- The cells of a list of ints. -/
def ints (xs : List Int) : List Value := xs.map (Value.int .i64)
theorem ints_length (xs : List Int) : (ints xs).length = xs.length := by simp [ints]
theorem ints_get (xs : List Int) (i : Nat) (h : i < xs.length) : (ints xs)[i]? = some (.int .i64 (xs.getD i 0)) := by
  simp [ints, h]
theorem ints_append (xs ys : List Int) : ints (xs ++ ys) = ints xs ++ ints ys := by simp [ints]
theorem ints_one (xs : List Int) : ∀ u ∈ ints xs, u.oneCell' = true := by
  intro u hu; obtain ⟨_, _, rfl⟩ := List.mem_map.1 hu; rfl

/-- The cells of a list of bytes. -/
def bys (xs : List Int) : List Value := xs.map (Value.int .u8)
/-- What an int can be. -/
def In64 (x : Int) : Prop := -9223372036854775808 ≤ x ∧ x ≤ 9223372036854775807

/-- The slice v of n elements, each of 'size' cells, reads at w as the cells cs. -/
def Rd (w : World) (size : Nat) (v : Value) (n : Nat) (cs : List Value) : Prop :=
  cs.length = n * size ∧ ∃ a cap, v = .slice a n cap ∧ n ≤ cap ∧ cap ≤ maxLen ∧
    (cs = [] ∨ ∃ b off, a = some ⟨b, off, none⟩ ∧ ∀ i, i < cs.length → w.cell? ⟨b, off + i, none⟩ = cs[i]?)

/-- In the blocks from lo up to hi alone something may have changed; new blocks may have come. -/
structure Chg (lo hi : Nat) (w w' : World) : Prop where
  os : w'.os = w.os
  tape : w'.tape = w.tape
  output : w'.output = w.output
  size : w.heap.size ≤ w'.heap.size
  block : ∀ k, k < w.heap.size → (k < lo ∨ hi ≤ k) → w'.heap[k]? = w.heap[k]?

theorem Chg.refl (lo hi : Nat) (w : World) : Chg lo hi w w := ⟨rfl, rfl, rfl, Nat.le_refl _, fun _ _ _ => rfl⟩
theorem Chg.trans {lo hi : Nat} {a b c : World} (h : Chg lo hi a b) (k : Chg lo hi b c) : Chg lo hi a c :=
  ⟨k.os.trans h.os, k.tape.trans h.tape, k.output.trans h.output, Nat.le_trans h.size k.size, fun i hi hh => (k.block i (Nat.lt_of_lt_of_le hi h.size) hh).trans (h.block i hi hh)⟩
theorem Chg.mono {lo hi lo' hi' : Nat} {w w' : World} (h : Chg lo hi w w') (h1 : lo' ≤ lo) (h2 : hi ≤ hi') : Chg lo' hi' w w' :=
  ⟨h.os, h.tape, h.output, h.size, fun k hk hh => h.block k hk (by omega)⟩
theorem Chg.of_below {lo hi : Nat} {w w' : World} (h : Below w.heap.size w w') : Chg lo hi w w' :=
  ⟨h.os, h.tape, h.output, h.size, fun k hk _ => h.block k hk⟩
theorem Chg.below {lo hi : Nat} {W w w' : World} (h : Chg lo hi w w') (hb : Below W.heap.size W w) (hl : W.heap.size ≤ lo) : Below W.heap.size W w' :=
  hb.trans ⟨h.os, h.tape, h.output, h.size, fun k hk => h.block k (Nat.lt_of_lt_of_le hk hb.size) (by omega)⟩
theorem Chg.below_of {lo hi : Nat} {w w' : World} (h : Chg lo hi w w') (hl : hi ≤ lo) : Below w.heap.size w w' :=
  ⟨h.os, h.tape, h.output, h.size, fun k hk => h.block k hk (by omega)⟩
theorem Chg.of_grown {g : Nat} {w w' : World} (h : w.grownBy w' (some g)) : Chg g (g + 1) w w' :=
  ⟨h.os, h.tape, h.output, h.size, fun k hk hh => h.block k hk (fun e => by injection e; omega)⟩
theorem Chg.setCell {lo hi : Nat} {w : World} {p : Addr} (h1 : lo ≤ p.block) (h2 : p.block < hi) (u : Value) : Chg lo hi w (w.setCell p u) :=
  ⟨rfl, rfl, rfl, by simp [World.setCell], fun k hk hh => Below.heap_setCell _ _ _ _ (by omega)⟩
theorem Chg.drew {lo hi : Nat} {w w' : World} (h : Chg lo hi w w') : Chg lo hi w w'.drew := ⟨h.os, h.tape, h.output, h.size, h.block⟩
theorem Chg.drewN {lo hi : Nat} {w w' : World} (h : Chg lo hi w w') (n : Nat) : Chg lo hi w (w'.drewN n) := ⟨h.os, h.tape, h.output, h.size, h.block⟩
theorem Chg.alloc {lo hi : Nat} {w w' : World} (h : Chg lo hi w w') (o : Obj) : Chg lo hi w (w'.alloc o) :=
  h.trans ⟨rfl, rfl, rfl, by simp, fun k hk _ => Below.heap_alloc _ _ _ hk⟩

end Go.Proofs.YtgdggkhdollieaaDoor
namespace Go.RowKit
theorem Below.drewN' {B : Nat} {a w : World} (h : Below B a w) (n : Nat) : Below B a (w.drewN n) := ⟨h.os, h.tape, h.output, h.size, h.block⟩
/-- Two steps of a call that leaves alone all that was there. -/
theorem Below.tr {a b c : World} (h : Below a.heap.size a b) (k : Below b.heap.size b c) : Below a.heap.size a c := h.trans (k.mono h.size)
end Go.RowKit
namespace Go.Proofs.YtgdggkhdollieaaDoor
open Go.RowKit
/-- What the walk takes of a step. -/
theorem bcell {W w1 : World} (hb : Below W.heap.size W w1) : (∀ b o, b < W.heap.size → w1.cell? ⟨b, o, none⟩ = W.cell? ⟨b, o, none⟩) ∧ (∀ b o, b < W.heap.size → w1.frozen? ⟨b, o, none⟩ = W.frozen? ⟨b, o, none⟩) :=
  ⟨fun b o h => hb.cell (p := ⟨b, o, none⟩) h, fun b o h => hb.frozen (p := ⟨b, o, none⟩) h⟩

section
variable {w w' : World} {size n : Nat} {v : Value} {cs : List Value}
theorem Rd.keep (h : Rd w size v n cs) (hb : Below w.heap.size w w') : Rd w' size v n cs := by
  obtain ⟨h1, a, cap, rfl, h2, h3, h4⟩ := h
  refine ⟨h1, a, cap, rfl, h2, h3, h4.imp id ?_⟩
  rintro ⟨b, off, rfl, hc⟩
  refine ⟨b, off, rfl, fun i hi => ?_⟩
  have h5 := hc i hi
  have h6 : cs[i]? = some cs[i] := by simp [hi]
  rw [h6] at h5 ⊢
  exact (hb.cell (p := ⟨b, off + i, none⟩) (World.block_lt_of_cell? w _ h5)).trans h5
theorem Rd.of_own {base : Nat} {e : TypeId} (h : w.ownsRow base e size v n cs) : Rd w size v n cs := by
  have h0 := h
  refine ⟨h.1, ?_⟩
  rcases h.2 with ⟨rfl, rfl⟩ | ⟨g, cap, cur, rfl, hb, hg, hn, hm, hs, ht⟩
  · exact ⟨none, 0, rfl, Nat.le_refl _, by decide, .inl (by have := h.1; simpa using this)⟩
  · refine ⟨_, cap, rfl, hn, hm, .inr ⟨g, 0, rfl, fun i hi => ?_⟩⟩
    rw [Nat.zero_add]
    exact h0.cellAt i (by rw [← h.1]; exact hi)
theorem Rd.length (h : Rd w size v n cs) : cs.length = n * size := h.1
theorem Rd.le (h : Rd w size v n cs) : n ≤ 9223372036854775807 := by
  obtain ⟨_, a, cap, _, h2, h3, _⟩ := h; unfold maxLen at h3; omega
theorem Rd.nil (w : World) (size : Nat) : Rd w size (.slice none 0 0) 0 [] := ⟨by simp, none, 0, rfl, Nat.le_refl _, by decide, .inl rfl⟩
end

/-- v owns the cells cs, in a block from lo up to hi; or it has no room at all. -/
def Ow (lo hi : Nat) (w : World) (e : TypeId) (size : Nat) (v : Value) (n : Nat) (cs : List Value) : Prop :=
  (n = 0 ∧ cs = [] ∧ ∃ a, v = .slice a 0 0) ∨
  (cs.length = n * size ∧ ∃ g cap cur, v = .slice (some ⟨g, 0, none⟩) n cap ∧ lo ≤ g ∧ g < hi ∧ w.heap[g]? = some (.cells cur e (0, 0)) ∧ n ≤ cap ∧ cap ≤ maxLen ∧ cur.size = cap * size ∧ cur.toList.take (n * size) = cs)

section
variable {lo hi : Nat} {w w' : World} {e : TypeId} {size n : Nat} {v : Value} {cs : List Value}
theorem Ow.of_row (h : w.ownsRow lo e size v n cs) : Ow lo w.heap.size w e size v n cs := by
  rcases h.2 with ⟨rfl, rfl⟩ | ⟨g, cap, cur, rfl, hb, hg, hn, hm, hs, ht⟩
  · exact .inl ⟨rfl, by have := h.1; simpa using this, none, rfl⟩
  · exact .inr ⟨h.1, g, cap, cur, rfl, hb, (Array.getElem?_eq_some_iff.1 hg).1, hg, hn, hm, hs, ht⟩
theorem Ow.cases (h : Ow lo hi w e size v n cs) : (n = 0 ∧ cs = [] ∧ ∃ a, v = .slice a 0 0) ∨ ∃ g cap, v = .slice (some ⟨g, 0, none⟩) n cap ∧ lo ≤ g ∧ g < hi ∧ w.ownsRow g e size v n cs := by
  rcases h with h | ⟨h1, g, cap, cur, rfl, hb, hh, hg, hn, hm, hs, ht⟩
  · exact .inl h
  · exact .inr ⟨g, cap, rfl, hb, hh, h1, .inr ⟨g, cap, cur, rfl, Nat.le_refl _, hg, hn, hm, hs, ht⟩⟩
theorem Ow.of_block {g cap : Nat} (h : w.ownsRow g e size (.slice (some ⟨g, 0, none⟩) n cap) n cs) (h1 : lo ≤ g) (h2 : g < hi) : Ow lo hi w e size (.slice (some ⟨g, 0, none⟩) n cap) n cs := by
  rcases h.2 with ⟨hv, _⟩ | ⟨g', cap', cur, hv, hb, hg, hn, hm, hs, ht⟩
  · simp at hv
  · simp only [Value.slice.injEq, Option.some.injEq, Addr.mk.injEq, and_true, true_and] at hv
    obtain ⟨rfl, rfl⟩ := hv
    exact .inr ⟨h.1, g, cap, cur, rfl, h1, h2, hg, hn, hm, hs, ht⟩
theorem Ow.rd (h : Ow lo hi w e size v n cs) : Rd w size v n cs := by
  rcases h.cases with ⟨rfl, rfl, a, rfl⟩ | ⟨g, cap, _, _, _, h⟩
  · exact ⟨by simp, a, 0, rfl, Nat.le_refl _, by decide, .inl rfl⟩
  · exact Rd.of_own h
theorem Ow.chg {lo' hi' : Nat} (h : Ow lo hi w e size v n cs) (hc : Chg lo' hi' w w') (hd : hi' ≤ lo ∨ hi ≤ lo') : Ow lo hi w' e size v n cs := by
  rcases h with h | ⟨h1, g, cap, cur, rfl, hb, hh, hg, r⟩
  · exact .inl h
  · refine .inr ⟨h1, g, cap, cur, rfl, hb, hh, ?_, r⟩
    rw [hc.block g (Array.getElem?_eq_some_iff.1 hg).1 (by omega)]; exact hg
theorem Ow.keep (h : Ow lo hi w e size v n cs) (hb : Below w.heap.size w w') : Ow lo hi w' e size v n cs := h.chg (Chg.of_below (lo := 0) (hi := 0) hb) (.inl (Nat.zero_le _))
theorem Ow.mono {lo' hi' : Nat} (h : Ow lo hi w e size v n cs) (h1 : lo' ≤ lo) (h2 : hi ≤ hi') : Ow lo' hi' w e size v n cs := by
  rcases h with h | ⟨h0, g, cap, cur, rfl, hb, hh, r⟩
  · exact .inl h
  · exact .inr ⟨h0, g, cap, cur, rfl, by omega, by omega, r⟩
theorem Ow.nil (lo hi : Nat) (w : World) (e : TypeId) (size : Nat) (a : Option Addr) : Ow lo hi w e size (.slice a 0 0) 0 [] := .inl ⟨rfl, rfl, a, rfl⟩
end

/-- A cell of an int slice that is read. -/
theorem Rd.int {w : World} {v : Value} {xs : List Int} (h : Rd w 1 v xs.length (ints xs)) :
    ∃ a cap, v = .slice a xs.length cap ∧ xs.length ≤ cap ∧ cap ≤ 9223372036854775807 ∧
      Hid (∀ k, k < xs.length → ∃ b off, a = some ⟨b, off, none⟩ ∧ b < w.heap.size ∧ w.cell? ⟨b, off + k, none⟩ = some (.int .i64 (xs.getD k 0))) := by
  obtain ⟨h1, a, cap, rfl, h2, h3, h4⟩ := h
  refine ⟨a, cap, rfl, h2, by unfold maxLen at h3; omega, Lib.hid fun k hk => ?_⟩
  rcases h4 with h4 | ⟨b, off, rfl, hc⟩
  · have h6 : (ints xs).length = 0 := by rw [h4]; rfl
    rw [ints_length] at h6; omega
  · have h5 := hc k (by rw [ints_length]; exact hk)
    rw [ints_get xs k hk] at h5
    exact ⟨b, off, rfl, World.block_lt_of_cell? w _ h5, h5⟩

/-- One element more, at whatever address: what an append of one cell brings. -/
theorem cell_new1 (w : World) (u : Value) (t : TypeId) : ∀ j x, [u][j]? = some x → (w.alloc (.cells #[u] t)).cell? ((⟨w.heap.size, 0, none⟩ : Addr).add j) = some x := by
  intro j x hx
  match j with
  | 0 => simp at hx; subst hx; simp [Addr.add, World.cell?_alloc_at]
  | j + 1 => simp at hx

theorem take_snoc {α : Type} (l : List α) (k : Nat) (d : α) (h : k < l.length) : l.take (k + 1) = l.take k ++ [l.getD k d] := by
  rw [List.take_succ_eq_append_getElem h]; simp [h]
theorem ints_take_snoc (xs : List Int) (k : Nat) (h : k < xs.length) : ints (xs.take (k + 1)) = ints (xs.take k) ++ [.int .i64 (xs.getD k 0)] := by
  rw [take_snoc xs k 0 h, ints_append]; rfl

/-- A list of n ints of which the first k are filled in. -/
def fillI (n k : Nat) (xs : List Int) : List Value := ints (xs.take k) ++ ints (List.replicate (n - k) 0)
theorem fillI_start (n : Nat) (xs : List Int) : fillI n 0 xs = List.replicate n (.int .i64 0) := by simp [fillI, ints]
theorem fillI_get (n k : Nat) (xs : List Int) (hn : xs.length = n) (hk : k < n) : (fillI n k xs)[k]? = some (.int .i64 0) := by
  have hl : (ints (xs.take k)).length = k := by rw [ints_length, List.length_take]; omega
  have h1 : n - k = (n - (k + 1)) + 1 := by omega
  rw [fillI, List.getElem?_append_right (by omega), hl, Nat.sub_self, h1, List.replicate_succ]; rfl
theorem fillI_set (n k : Nat) (xs : List Int) (hn : xs.length = n) (hk : k < n) : (fillI n k xs).set k (.int .i64 (xs.getD k 0)) = fillI n (k + 1) xs := by
  have hl : (ints (xs.take k)).length = k := by rw [ints_length, List.length_take]; omega
  have h1 : n - k = (n - (k + 1)) + 1 := by omega
  rw [fillI, List.set_append_right _ _ (by omega), hl, Nat.sub_self, h1, List.replicate_succ, fillI, ints_take_snoc xs k (by omega)]
  simp [ints]
theorem fillI_all (n : Nat) (xs : List Int) (hn : xs.length = n) : fillI n n xs = ints xs := by
  rw [fillI, List.take_of_length_le (by omega), Nat.sub_self]; simp [ints]

/-- 'a[i]' of an array of ints by value. -/
theorem run_index_agg {P : Program} (t e : TypeId) (len : Nat) (cs : Array Value) (i : Nat) (k : IntKind) (v : Value) (w : World) (ht : P.underlying t = some (.array len e)) (he : P.underlying e = some (.int k))
    (hz : (P.info? e).map (·.size) = some 1) (hi : i < len) (hv : cs[i]? = some v) : (Instr.index t (.agg cs) (.int .i64 (i : Int))).run P w = .ok v w := by
  obtain ⟨q, hq, hq1⟩ := Option.map_eq_some_iff.1 hz
  simp [Instr.index, run_underlying ht, asIntOf, hi, part, isAgg, run_underlying he, sizeOf, typeInfo, hq, hq1, hv]

theorem add_lit' (b o n : Nat) : (⟨b, o, none⟩ : Addr).add n = ⟨b, o + n, none⟩ := by unfold Addr.add; split <;> simp_all

/-- A beginning of a slice that is read. -/
theorem Rd.take {w : World} {size n : Nat} {a : Option Addr} {cap : Nat} {cs : List Value} (h : Rd w size (.slice a n cap) n cs) (m : Nat) (hm : m ≤ n) : Rd w size (.slice a m cap) m (cs.take (m * size)) := by
  obtain ⟨h1, a', cap', hv, h2, h3, h4⟩ := h
  simp only [Value.slice.injEq, true_and] at hv
  obtain ⟨rfl, rfl⟩ := hv
  have hle : m * size ≤ n * size := Nat.mul_le_mul_right _ hm
  refine ⟨by rw [List.length_take]; omega, a, cap, rfl, by omega, h3, ?_⟩
  rcases h4 with rfl | ⟨b, off, rfl, hc⟩
  · exact .inl (by simp)
  · refine .inr ⟨b, off, rfl, fun i hi => ?_⟩
    rw [List.length_take] at hi
    rw [hc i (by omega), List.getElem?_take, if_pos (by omega)]
theorem ownsRow_chg {lo hi base size n : Nat} {w w' : World} {e : TypeId} {v : Value} {cs : List Value} (h : w.ownsRow base e size v n cs) (hc : Chg lo hi w w') (hd : hi ≤ base) : w'.ownsRow base e size v n cs := by
  refine ⟨h.1, ?_⟩
  rcases h.2 with h2 | ⟨g, cap, cur, rfl, hb, hg, r⟩
  · exact .inl h2
  · refine .inr ⟨g, cap, cur, rfl, hb, ?_, r⟩
    rw [hc.block g (Array.getElem?_eq_some_iff.1 hg).1 (.inr (by omega))]; exact hg
theorem ownsRow_keep {base size n : Nat} {w w' : World} {e : TypeId} {v : Value} {cs : List Value} (h : w.ownsRow base e size v n cs) (hb : Below w.heap.size w w') : w'.ownsRow base e size v n cs :=
  ownsRow_chg h (Chg.of_below (lo := 0) (hi := 0) hb) (Nat.zero_le _)

theorem Chg.then {lo hi : Nat} {a b c : World} (h : Chg lo hi a b) (k : Below a.heap.size b c) : Chg lo hi a c :=
  ⟨k.os.trans h.os, k.tape.trans h.tape, k.output.trans h.output, Nat.le_trans h.size k.size, fun i hi hh => (k.block i hi).trans (h.block i hi hh)⟩

/-! Append, at an operation that is carried out ('hw': its guard, if it has one, lets it): one element that has just been laid into a block of its own; the elements of a slice that is read. -/
section
variable {P : Program}
theorem wp_pushB {wr : World} {o : Oper} {a : Act} {K : Act → World → Prop} {Q : Exit → Act → World → Prop} (s x : Operand) (t e : TypeId)
    (ho : o.op = .call { callee := .builtin .append, args := #[s, x], argTypes := #[t, t] })
    (z : Value) (size bytes : Nat) (ht : P.underlying t = some (.slice e)) (hinfo : (P.info? e).map (fun i => (i.zero, i.size, i.bytes)) = some (some z, size, bytes)) (hzs : z.cells.size = size) (hsz : 0 < size) (hby : bytes ≤ 64)
    (us : Array Value) (hus : us.size = size) (h1 : ∀ u ∈ us.toList, u.oneCell' = true)
    (base : Nat) (v : Value) (n : Nat) (xs : List Value) (hown : wr.ownsRow base e size v n xs) (hs : a.eval s = v) (hx : a.eval x = .slice (some ⟨wr.heap.size, 0, none⟩) 1 1)
    (hn : n ≤ 1099511627776) (hbase2 : base ≤ wr.heap.size)
    (h : ∀ v' w', w'.ownsRow base e size v' (n + 1) (xs ++ us.toList) → Below base wr w' → v' ≠ .slice none 0 0 → K (a.put o.dst v') w') : o.wp P a (wr.alloc (.cells us e)) K Q := by
  obtain ⟨i, hi, hz, hs1, hb1⟩ := info_parts hinfo
  have hb2 : (n + 1) * bytes ≤ 140737488355328 := Nat.le_trans (Nat.mul_le_mul_left _ hby) (by omega)
  refine wp_append_own (P := P) _ s x t ho base e i z size bytes ht hi hz hs1 hb1 hzs hsz v n xs hs (hown.alloc _) ⟨wr.heap.size, 0, none⟩ 1 1 us.toList hx (by simp [hus]) ?_ h1 (by unfold maxLen; omega) hb2 (by simp; omega) ?_
  · intro j u hu
    rw [add_lit', Nat.zero_add, World.cell?_alloc_at _ _ _ _ rfl]
    simpa using hu
  · intro v' w' h2 h3 h4
    have hb3 : Below base wr (wr.alloc (.cells us e)) := (Below.refl _ _).alloc hbase2 _
    refine h v' w' h2 (hb3.grown h3 (by simp; omega) ?_) (fun e => by rw [h4] at e; omega)
    intro k hk
    exact ((hown.alloc (.cells us e)).lt k hk).1
theorem wp_pushAllB {w : World} {o : Oper} {a : Act} {K : Act → World → Prop} {Q : Exit → Act → World → Prop} (s x : Operand) (t e : TypeId)
    (ho : o.op = .call { callee := .builtin .append, args := #[s, x], argTypes := #[t, t] })
    (z : Value) (size bytes : Nat) (ht : P.underlying t = some (.slice e)) (hinfo : (P.info? e).map (fun i => (i.zero, i.size, i.bytes)) = some (some z, size, bytes)) (hzs : z.cells.size = size) (hsz : 0 < size) (hby : bytes ≤ 64)
    (base : Nat) (v : Value) (n : Nat) (xs : List Value) (hown : w.ownsRow base e size v n xs) (hs : a.eval s = v) (y : Value) (m : Nat) (ys : List Value) (hy : Rd w size y m ys) (hx : a.eval x = y) (h1 : ∀ u ∈ ys, u.oneCell' = true)
    (hn : n ≤ 1099511627776) (hm : m ≤ 1099511627776) (hbase2 : base ≤ w.heap.size)
    (h : ∀ v' w', w'.ownsRow base e size v' (n + m) (xs ++ ys) → Below base w w' → (v' = .slice none 0 0 ↔ v = .slice none 0 0 ∧ m = 0) → K (a.put o.dst v') w') : o.wp P a w K Q := by
  obtain ⟨i, hi, hz, hs1, hb1⟩ := info_parts hinfo
  obtain ⟨hl, ad, cap, rfl, hmc, hcm, hc⟩ := hy
  have hb2 : (n + m) * bytes ≤ 140737488355328 := Nat.le_trans (Nat.mul_le_mul_left _ hby) (by omega)
  have gr : ∀ k, v.ownBlock = some k → base ≤ k := fun k hk => (hown.lt k hk).1
  rcases hc with rfl | ⟨b, off, rfl, hc⟩
  · have hm0 : m = 0 := by
      rcases Nat.eq_zero_or_pos m with h | h
      · exact h
      · have := Nat.mul_pos h hsz; simp at hl; omega
    subst hm0
    have fc : ∀ w' : World, (Builtin.firstCells size 0 (.slice ad 0 cap)).run P w' = .ok #[] w' := by
      intro w'
      cases ad with
      | none => simp [Builtin.firstCells]
      | some b => simp [Builtin.firstCells, loadCells, loadCellsFrom]
    have hrun : (Builtin.append_ #[t, t] o.type #[v, .slice ad 0 cap]).run P w = .ok v w := by
      have fc' := fc w
      rw [← hs1] at fc'
      rcases hown.2 with ⟨rfl, rfl⟩ | ⟨g, cap', cur, rfl, hbg, hg, hnc, hcm', hcs, htake⟩
      · simp [Builtin.append_, run_underlying ht, sizeOf, typeInfo, hi, Builtin.lenOf, fc']
      · simp [Builtin.append_, run_underlying ht, sizeOf, typeInfo, hi, Builtin.lenOf, fc', hnc, storeCells]
    unfold Oper.wp
    simp [execOp, ho, resolve, invoke, builtin, hs, hx, hrun, Result.andThen]
    exact h v w (by simpa using hown) (Below.refl _ _) (by simp)
  · refine wp_append_own (P := P) _ s x t ho base e i z size bytes ht hi hz hs1 hb1 hzs hsz v n xs hs hown ⟨b, off, none⟩ m cap ys hx hl ?_ h1 (by unfold maxLen; omega) hb2 hbase2 ?_
    · intro j u hu
      have hj : j < ys.length := (List.getElem?_eq_some_iff.1 hu).1
      rw [add_lit', hc j hj]; exact hu
    · intro v' w' h2 h3 h4
      exact h v' w' h2 ((Below.refl _ _).grown h3 hbase2 gr) h4
theorem wpList_pushB {wr : World} {ops : Array Oper} {rest : List Oper} {o : Oper} {a : Act} {Q : Exit → Act → World → Prop} (hw : Region.wanted o (yielded ops a.tmps) = true) (s x : Operand) (t e : TypeId)
    (ho : o.op = .call { callee := .builtin .append, args := #[s, x], argTypes := #[t, t] })
    (z : Value) (size bytes : Nat) (ht : P.underlying t = some (.slice e)) (hinfo : (P.info? e).map (fun i => (i.zero, i.size, i.bytes)) = some (some z, size, bytes)) (hzs : z.cells.size = size) (hsz : 0 < size) (hby : bytes ≤ 64)
    (us : Array Value) (hus : us.size = size) (h1 : ∀ u ∈ us.toList, u.oneCell' = true)
    (base : Nat) (v : Value) (n : Nat) (xs : List Value) (hown : wr.ownsRow base e size v n xs) (hs : a.eval s = v) (hx : a.eval x = .slice (some ⟨wr.heap.size, 0, none⟩) 1 1)
    (hn : n ≤ 1099511627776) (hbase2 : base ≤ wr.heap.size)
    (h : ∀ v' w', w'.ownsRow base e size v' (n + 1) (xs ++ us.toList) → Below base wr w' → v' ≠ .slice none 0 0 → wpList P ops Q rest (a.put o.dst v') w') : wpList P ops Q (o :: rest) a (wr.alloc (.cells us e)) := by
  refine wpList_step fun K hK => ?_
  rw [if_pos hw]
  exact wp_pushB s x t e ho z size bytes ht hinfo hzs hsz hby us hus h1 base v n xs hown hs hx hn hbase2 fun v' w' h2 h3 h4 => hK _ _ (h v' w' h2 h3 h4)
theorem wpList_pushAllB {w : World} {ops : Array Oper} {rest : List Oper} {o : Oper} {a : Act} {Q : Exit → Act → World → Prop} (hw : Region.wanted o (yielded ops a.tmps) = true) (s x : Operand) (t e : TypeId)
    (ho : o.op = .call { callee := .builtin .append, args := #[s, x], argTypes := #[t, t] })
    (z : Value) (size bytes : Nat) (ht : P.underlying t = some (.slice e)) (hinfo : (P.info? e).map (fun i => (i.zero, i.size, i.bytes)) = some (some z, size, bytes)) (hzs : z.cells.size = size) (hsz : 0 < size) (hby : bytes ≤ 64)
    (base : Nat) (v : Value) (n : Nat) (xs : List Value) (hown : w.ownsRow base e size v n xs) (hs : a.eval s = v) (y : Value) (m : Nat) (ys : List Value) (hy : Rd w size y m ys) (hx : a.eval x = y) (h1 : ∀ u ∈ ys, u.oneCell' = true)
    (hn : n ≤ 1099511627776) (hm : m ≤ 1099511627776) (hbase2 : base ≤ w.heap.size)
    (h : ∀ v' w', w'.ownsRow base e size v' (n + m) (xs ++ ys) → Below base w w' → (v' = .slice none 0 0 ↔ v = .slice none 0 0 ∧ m = 0) → wpList P ops Q rest (a.put o.dst v') w') : wpList P ops Q (o :: rest) a w := by
  refine wpList_step fun K hK => ?_
  rw [if_pos hw]
  exact wp_pushAllB s x t e ho z size bytes ht hinfo hzs hsz hby base v n xs hown hs y m ys hy hx h1 hn hm hbase2 fun v' w' h2 h3 h4 => hK _ _ (h v' w' h2 h3 h4)
theorem step_pushB {wr : World} {ops : Array Oper} {o : Oper} {a : Act} {K : Act → World → Prop} {Q : Exit → Act → World → Prop} {E : Prop} (hw : Region.wanted o (yielded ops a.tmps) = true) (s x : Operand) (t e : TypeId)
    (ho : o.op = .call { callee := .builtin .append, args := #[s, x], argTypes := #[t, t] })
    (z : Value) (size bytes : Nat) (ht : P.underlying t = some (.slice e)) (hinfo : (P.info? e).map (fun i => (i.zero, i.size, i.bytes)) = some (some z, size, bytes)) (hzs : z.cells.size = size) (hsz : 0 < size) (hby : bytes ≤ 64)
    (us : Array Value) (hus : us.size = size) (h1 : ∀ u ∈ us.toList, u.oneCell' = true)
    (base : Nat) (v : Value) (n : Nat) (xs : List Value) (hown : wr.ownsRow base e size v n xs) (hs : a.eval s = v) (hx : a.eval x = .slice (some ⟨wr.heap.size, 0, none⟩) 1 1)
    (hn : n ≤ 1099511627776) (hbase2 : base ≤ wr.heap.size)
    (h : ∀ v' w', w'.ownsRow base e size v' (n + 1) (xs ++ us.toList) → Below base wr w' → v' ≠ .slice none 0 0 → K (a.put o.dst v') w') :
    if Region.wanted o (yielded ops a.tmps) = true then Oper.wp P o a (wr.alloc (.cells us e)) K Q else E := by
  rw [if_pos hw]
  exact wp_pushB s x t e ho z size bytes ht hinfo hzs hsz hby us hus h1 base v n xs hown hs hx hn hbase2 h
theorem step_pushAllB {w : World} {ops : Array Oper} {o : Oper} {a : Act} {K : Act → World → Prop} {Q : Exit → Act → World → Prop} {E : Prop} (hw : Region.wanted o (yielded ops a.tmps) = true) (s x : Operand) (t e : TypeId)
    (ho : o.op = .call { callee := .builtin .append, args := #[s, x], argTypes := #[t, t] })
    (z : Value) (size bytes : Nat) (ht : P.underlying t = some (.slice e)) (hinfo : (P.info? e).map (fun i => (i.zero, i.size, i.bytes)) = some (some z, size, bytes)) (hzs : z.cells.size = size) (hsz : 0 < size) (hby : bytes ≤ 64)
    (base : Nat) (v : Value) (n : Nat) (xs : List Value) (hown : w.ownsRow base e size v n xs) (hs : a.eval s = v) (y : Value) (m : Nat) (ys : List Value) (hy : Rd w size y m ys) (hx : a.eval x = y) (h1 : ∀ u ∈ ys, u.oneCell' = true)
    (hn : n ≤ 1099511627776) (hm : m ≤ 1099511627776) (hbase2 : base ≤ w.heap.size)
    (h : ∀ v' w', w'.ownsRow base e size v' (n + m) (xs ++ ys) → Below base w w' → (v' = .slice none 0 0 ↔ v = .slice none 0 0 ∧ m = 0) → K (a.put o.dst v') w') :
    if Region.wanted o (yielded ops a.tmps) = true then Oper.wp P o a w K Q else E := by
  rw [if_pos hw]
  exact wp_pushAllB s x t e ho z size bytes ht hinfo hzs hsz hby base v n xs hown hs y m ys hy hx h1 hn hm hbase2 h
theorem wpList_push {W wr : World} {ops : Array Oper} {rest : List Oper} {o : Oper} {a : Act} {Q : Exit → Act → World → Prop} (hw : Region.wanted o (yielded ops a.tmps) = true) (s x : Operand) (t e : TypeId)
    (ho : o.op = .call { callee := .builtin .append, args := #[s, x], argTypes := #[t, t] })
    (z : Value) (size bytes : Nat) (ht : P.underlying t = some (.slice e)) (hinfo : (P.info? e).map (fun i => (i.zero, i.size, i.bytes)) = some (some z, size, bytes)) (hzs : z.cells.size = size) (hsz : 0 < size) (hby : bytes ≤ 64)
    (us : Array Value) (hus : us.size = size) (h1 : ∀ u ∈ us.toList, u.oneCell' = true)
    (base : Nat) (v : Value) (n : Nat) (xs : List Value) (hown : wr.ownsRow base e size v n xs) (hs : a.eval s = v) (hx : a.eval x = .slice (some ⟨wr.heap.size, 0, none⟩) 1 1)
    (hn : n ≤ 1099511627776) (hbel : Below W.heap.size W wr) (hbase : W.heap.size ≤ base) (hbase2 : base ≤ wr.heap.size)
    (h : ∀ v' w', w'.ownsRow base e size v' (n + 1) (xs ++ us.toList) → Below W.heap.size W w' → v' ≠ .slice none 0 0 → wpList P ops Q rest (a.put o.dst v') w') : wpList P ops Q (o :: rest) a (wr.alloc (.cells us e)) :=
  wpList_pushB hw s x t e ho z size bytes ht hinfo hzs hsz hby us hus h1 base v n xs hown hs hx hn hbase2 fun v' w' h2 h3 h4 => h v' w' h2 (hbel.trans (h3.mono hbase)) h4
end

/-! A block that is known whole. -/
theorem box_cell {w : World} {b : Nat} {cs : Array Value} {t : TypeId} (h : w.heap[b]? = some (.cells cs t (0, 0))) (i : Nat) (u : Value) (hu : cs[i]? = some u) : w.cell? ⟨b, i, none⟩ = some u := by
  rw [cell_of_row w b i cs t (0, 0) h]; exact hu
theorem box_frozen {w : World} {b : Nat} {cs : Array Value} {t : TypeId} (h : w.heap[b]? = some (.cells cs t (0, 0))) (i : Nat) : w.frozen? ⟨b, i, none⟩ = false := frozen_of_row w b i cs t h
theorem box_lt {w : World} {b : Nat} {o : Obj} (h : w.heap[b]? = some o) : b < w.heap.size := (Array.getElem?_eq_some_iff.1 h).1
theorem box_keep {w w' : World} {b : Nat} {o : Obj} (h : w.heap[b]? = some o) (hb : Below w.heap.size w w') : w'.heap[b]? = some o := (hb.block b (box_lt h)).trans h
theorem box_alloc {w : World} {b : Nat} {o : Obj} (h : w.heap[b]? = some o) (o' : Obj) : (w.alloc o').heap[b]? = some o := (Below.heap_alloc w o' b (box_lt h)).trans h
theorem box_other {w : World} {b : Nat} {o : Obj} (h : w.heap[b]? = some o) (p : Addr) (u : Value) (hne : b ≠ p.block) : (w.setCell p u).heap[b]? = some o := (heap_setCell_other w p b u hne).trans h
theorem box_set {w : World} {b : Nat} {cs : Array Value} {t : TypeId} (h : w.heap[b]? = some (.cells cs t (0, 0))) (i : Nat) (u : Value) : (w.setCell ⟨b, i, none⟩ u).heap[b]? = some (.cells (cs.setIfInBounds i u) t (0, 0)) := heap_setCell_same w b i cs t u h
end Go.Proofs.YtgdggkhdollieaaDoor
