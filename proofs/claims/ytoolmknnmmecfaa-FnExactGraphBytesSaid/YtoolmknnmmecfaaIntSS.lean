/-
  Lists of lists of ints: how they read, how they are owned; what the law's helpers do with them.
-/
import Derived.Test.YtoolmknnmmecfaaInts
import Derived.Test.YtoolmknnmmecfaaLib3
import Derived.Deep.AppendLies
namespace Go.Proofs.Ytoolmknnmmecfaa
open Go.RowKit
set_option linter.unusedVariables false

theorem infoRow : (Try.prog.info? 43).map (fun i => (i.zero, i.size, i.bytes)) = some (some (.slice none 0 0), 1, 24) := by kernel_rfl

theorem Chg.belowB {lo hi B : Nat} {w w' : World} (h : Chg lo hi w w') (hl : B ≤ lo) (hs : B ≤ w.heap.size) : Below B w w' :=
  ⟨h.os, h.tape, h.output, h.size, fun k hk => h.block k (by omega) (by omega)⟩
/-- A list of lists of ints that is read. -/
def RdIntSS (w : World) (v : Value) (xss : List (List Int)) : Prop := ∃ vs : List Value, Rd w 1 v xss.length vs ∧ ∀ i, i < xss.length → ∃ u, vs[i]? = some u ∧ RdIntS w u (xss.getD i [])
theorem RdIntSS.keep {w w' : World} {v : Value} {xss : List (List Int)} (h : RdIntSS w v xss) (hb : Below w.heap.size w w') : RdIntSS w' v xss := by
  obtain ⟨vs, h1, h2⟩ := h
  exact ⟨vs, h1.keep hb, fun i hi => by obtain ⟨u, hu, hr⟩ := h2 i hi; exact ⟨u, hu, hr.keep hb⟩⟩
theorem RdIntSS.form {w : World} {v : Value} {xss : List (List Int)} (h : RdIntSS w v xss) : ∃ a cap, v = .slice a xss.length cap ∧ xss.length ≤ cap ∧ cap ≤ 9223372036854775807 := by
  obtain ⟨vs, h1, _⟩ := h; exact h1.form
/-- An element. -/
theorem RdIntSS.at_ {w : World} {a : Option Addr} {n cap k : Nat} {xss : List (List Int)} (h : RdIntSS w (.slice a n cap) xss) (hn : xss.length = n) (hk : k < n) :
    ∃ b off u, a = some ⟨b, off, none⟩ ∧ b < w.heap.size ∧ w.cell? ⟨b, off + k, none⟩ = some u ∧ RdIntS w u (xss.getD k []) := by
  subst hn
  obtain ⟨vs, ⟨hl, a', cap', hv, _, _, hc⟩, h2⟩ := h
  simp only [Value.slice.injEq, true_and] at hv
  obtain ⟨rfl, rfl⟩ := hv
  obtain ⟨u, hu, hr⟩ := h2 k hk
  rcases hc with rfl | ⟨b, off, rfl, hc⟩
  · simp at hu
  · have h1 := hc k (List.getElem?_eq_some_iff.1 hu).1
    rw [hu] at h1
    exact ⟨b, off, u, rfl, World.block_lt_of_cell? w _ h1, h1, hr⟩
def WfIntSS (xss : List (List Int)) : Prop := ∀ xs ∈ xss, WfIntS xs
/-- How many ints the first k lists have together. -/
def cntTo (xss : List (List Int)) (k : Nat) : Nat := ((xss.take k).map List.length).sum
def cntIntSS (xss : List (List Int)) : Nat := cntTo xss xss.length
theorem rowTake_snoc (xss : List (List Int)) (k : Nat) (h : k < xss.length) : xss.take (k + 1) = xss.take k ++ [xss.getD k []] := take_snoc xss k [] h
theorem cntTo_succ (xss : List (List Int)) (k : Nat) (h : k < xss.length) : cntTo xss (k + 1) = cntTo xss k + (xss.getD k []).length := by
  rw [cntTo, rowTake_snoc xss k h]; simp [cntTo]
theorem cntTo_le (xss : List (List Int)) (k : Nat) : cntTo xss k ≤ cntIntSS xss := by
  have : cntIntSS xss = cntTo xss k + ((xss.drop k).map List.length).sum := by
    rw [cntIntSS, cntTo, cntTo, List.take_of_length_le (Nat.le_refl _)]
    conv => lhs; rw [← List.take_append_drop k xss]
    rw [List.map_append, List.sum_append]
  omega
def MkIntSS (m : Int) (xss yss : List (List Int)) : Prop := yss.length = xss.length ∧ ∀ i, i < xss.length → yss.getD i [] = seqI (m + (cntTo xss i : Int)) (xss.getD i []).length
/-- Lists of ints in blocks of their own, from lo up to hi: the outer one in block g, the i-th between A i and M i. -/
structure OwnR (lo hi : Nat) (w : World) (g cap : Nat) (vs : List Value) (A M : Nat → Nat) (xss : List (List Int)) : Prop where
  glo : lo ≤ g
  ghi : g < hi
  row : w.ownsRow g 43 1 (.slice (some ⟨g, 0, none⟩) xss.length cap) xss.length vs
  each : ∀ i, i < xss.length → (lo ≤ A i ∧ A i ≤ M i ∧ M i ≤ hi ∧ (g < A i ∨ M i ≤ g)) ∧ ∃ u, vs[i]? = some u ∧ OwIntS (A i) (M i) w u (xss.getD i [])
  apart : ∀ i j, i < j → j < xss.length → M i ≤ A j
def OwIntSS (lo hi : Nat) (w : World) (v : Value) (xss : List (List Int)) : Prop :=
  (xss = [] ∧ v = .slice none 0 0) ∨ ∃ g cap vs A M, v = .slice (some ⟨g, 0, none⟩) xss.length cap ∧ OwnR lo hi w g cap vs A M xss
section
variable {lo hi : Nat} {w w' : World} {v : Value} {xss : List (List Int)}
theorem OwnR.rd {g cap : Nat} {vs : List Value} {A M : Nat → Nat} (h : OwnR lo hi w g cap vs A M xss) : RdIntSS w (.slice (some ⟨g, 0, none⟩) xss.length cap) xss :=
  ⟨vs, Rd.of_own h.row, fun i hi => by obtain ⟨_, u, hu, ho⟩ := h.each i hi; exact ⟨u, hu, ho.rd⟩⟩
theorem OwIntSS.rd (h : OwIntSS lo hi w v xss) : RdIntSS w v xss := by
  rcases h with ⟨rfl, rfl⟩ | ⟨g, cap, vs, A, M, rfl, h⟩
  · exact ⟨[], Rd.nil _ _, fun i hi => by simp at hi⟩
  · exact h.rd
theorem OwnR.chg {lo' hi' g cap : Nat} {vs : List Value} {A M : Nat → Nat} (h : OwnR lo hi w g cap vs A M xss) (hc : Chg lo' hi' w w') (hd : hi' ≤ lo ∨ hi ≤ lo') : OwnR lo hi w' g cap vs A M xss := by
  refine ⟨h.glo, h.ghi, ?_, fun i hi => ?_, h.apart⟩
  · have := h.glo; have := h.ghi
    refine ⟨h.row.1, ?_⟩
    rcases h.row.2 with h2 | ⟨g', cap', cur, e, hb, hg, r⟩
    · exact .inl h2
    · simp only [Value.slice.injEq, Option.some.injEq, Addr.mk.injEq, and_true, true_and] at e
      obtain ⟨rfl, rfl⟩ := e
      refine .inr ⟨g, cap, cur, rfl, hb, ?_, r⟩
      rw [hc.block g (box_lt hg) (by omega)]; exact hg
  · obtain ⟨h1, u, hu, ho⟩ := h.each i hi
    exact ⟨h1, u, hu, ho.chg hc (by omega)⟩
theorem OwIntSS.chg {lo' hi' : Nat} (h : OwIntSS lo hi w v xss) (hc : Chg lo' hi' w w') (hd : hi' ≤ lo ∨ hi ≤ lo') : OwIntSS lo hi w' v xss := by
  rcases h with h | ⟨g, cap, vs, A, M, rfl, h⟩
  · exact .inl h
  · exact .inr ⟨g, cap, vs, A, M, rfl, h.chg hc hd⟩
theorem OwIntSS.keep (h : OwIntSS lo hi w v xss) (hb : Below w.heap.size w w') : OwIntSS lo hi w' v xss := h.chg (Chg.of_below (lo := 0) (hi := 0) hb) (.inl (Nat.zero_le _))
theorem OwIntSS.mono {lo' hi' : Nat} (h : OwIntSS lo hi w v xss) (h1 : lo' ≤ lo) (h2 : hi ≤ hi') : OwIntSS lo' hi' w v xss := by
  rcases h with h | ⟨g, cap, vs, A, M, rfl, h⟩
  · exact .inl h
  · exact .inr ⟨g, cap, vs, A, M, rfl, Nat.le_trans h1 h.glo, Nat.lt_of_lt_of_le h.ghi h2, h.row, fun i hi => by obtain ⟨h3, h4⟩ := h.each i hi; exact ⟨by omega, h4⟩, h.apart⟩
theorem OwIntSS.nil (lo hi : Nat) (w : World) : OwIntSS lo hi w (.slice none 0 0) [] := .inl ⟨rfl, rfl⟩
theorem OwIntSS.empty {lo hi : Nat} {w : World} (h1 : lo ≤ w.heap.size) (h2 : w.heap.size < hi) : OwIntSS lo hi (w.alloc (.cells #[] 43)) (.slice (some ⟨w.heap.size, 0, none⟩) 0 0) [] :=
  .inr ⟨w.heap.size, 0, [], fun _ => 0, fun _ => 0, rfl, h1, h2, World.ownsRow_made (size := 1) w #[] 0 (Nat.le_refl _) (by decide) rfl, fun i hi => by simp at hi, fun i j _ hj => by simp at hj⟩
end

/-- What is no cells lies as it lay. -/
def Oth (w w' : World) : Prop := ∀ (k : Nat) (o : Obj), w.heap[k]? = some o → (∀ cs t f, o ≠ .cells cs t f) → w'.heap[k]? = some o
/-- One list more behind lists that are owned: the new one has just been made (from S up to T), and laid into a block of its own. -/
theorem wp_pushRowK {P : Program} {w : World} {o : Oper} {a : Act} {K : Act → World → Prop} {Q : Exit → Act → World → Prop} (s x : Operand) (t : TypeId)
    (ho : o.op = .call { callee := .builtin .append, args := #[s, x], argTypes := #[t, t] })
    (ht : P.underlying t = some (.slice 43)) (hinfo : (P.info? 43).map (fun i => (i.zero, i.size, i.bytes)) = some (some (.slice none 0 0), 1, 24))
    (lo S : Nat) (v u : Value) (xss : List (List Int)) (xs : List Int) (hown : OwIntSS lo S w v xss) (hu : OwIntS S w.heap.size w u xs) (hu1 : u.oneCell' = true) (hs : a.eval s = v) (hx : a.eval x = .slice (some ⟨w.heap.size, 0, none⟩) 1 1)
    (hn : xss.length ≤ 1099511627776) (hlo : lo ≤ S) (hS : S ≤ w.heap.size)
    (h : ∀ v' w', OwIntSS lo w'.heap.size w' v' (xss ++ [xs]) → Below lo w w' → (∃ a c, v' = .slice a (xss.length + 1) c) → Oth w w' → K (a.put o.dst v') w') : o.wp P a (w.alloc (.cells #[u] 43)) K Q := by
  obtain ⟨i, hi, hz, hs1, hb1⟩ := info_parts hinfo
  have hnews : ∀ j y, [u][j]? = some y → (w.alloc (.cells #[u] 43)).cell? ((⟨w.heap.size, 0, none⟩ : Addr).add j) = some y := cell_new1 w u _
  have h1 : ∀ y ∈ [u], y.oneCell' = true := by intro y hy; simp at hy; subst hy; exact hu1
  have hsz : (w.alloc (.cells #[u] 43)).heap.size = w.heap.size + 1 := by simp
  have hge : ∀ i, (xss ++ [xs]).getD i [] = if i < xss.length then xss.getD i [] else (if i = xss.length then xs else []) := by
    intro i
    by_cases h1 : i < xss.length
    · rw [if_pos h1]; simp [List.getElem?_append, h1]
    · rw [if_neg h1]
      by_cases h2 : i = xss.length
      · subst h2; simp
      · have h3 : (xss ++ [xs]).length ≤ i := by simp; omega
        rw [if_neg h2, List.getD_eq_getElem?_getD, List.getElem?_eq_none h3]; rfl
  rcases hown with ⟨rfl, rfl⟩ | ⟨g, cap, vs, A, M, rfl, hR⟩
  · refine wp_append_lies _ s x t ho w.heap.size 43 i (.slice none 0 0) 1 24 ht hi hz hs1 hb1 rfl (by decide) (.slice none 0 0) 0 [] hs (World.ownsRow_nil _ _ _ _) ⟨w.heap.size, 0, none⟩ 1 1 [u] hx rfl hnews h1 (by decide) (by unfold maxLen; simp) (by simp) (by simp) (w.heap.size + 1) hsz ?_
    intro g cap w' hrow hgrow hat hlt
    have hg : g = w.heap.size + 1 := by
      rcases hat with h | h
      · simp [Value.ownBlock] at h
      · exact h
    subst hg
    have hbel : Below w.heap.size w w' := ((Below.refl _ _).alloc (Nat.le_refl _) _).grown hgrow (by simp) (by intro k hk; simp [Value.ownBlock] at hk)
    refine h _ w' (.inr ⟨w.heap.size + 1, cap, [u], fun _ => S, fun _ => w.heap.size, rfl, by omega, hlt, ?_, fun i hi => ?_, fun i j hij hj => ?_⟩) (hbel.mono (by omega)) ⟨_, _, rfl⟩ (fun k o hk _ => (hbel.block k (box_lt hk)).trans hk)
    · refine ⟨hrow.1, ?_⟩
      rcases hrow.2 with ⟨h2, _⟩ | ⟨g', cap', cur, e, hb, r⟩
      · simp at h2
      · simp only [Value.slice.injEq, Option.some.injEq, Addr.mk.injEq, and_true, true_and] at e
        obtain ⟨rfl, rfl⟩ := e
        exact .inr ⟨_, _, cur, rfl, Nat.le_refl _, r⟩
    · simp only [List.nil_append, List.length_cons, List.length_nil] at hi
      obtain rfl : i = 0 := by omega
      exact ⟨⟨hlo, hS, by have := hbel.size; omega, .inr (by omega)⟩, u, rfl, by simpa using hu.keep hbel⟩
    · simp at hj; omega
  · have hgS := hR.ghi
    have hglo := hR.glo
    have hrow' : (w.alloc (.cells #[u] 43)).ownsRow g 43 1 (.slice (some ⟨g, 0, none⟩) xss.length cap) xss.length vs := hR.row.alloc _
    refine wp_append_lies _ s x t ho g 43 i (.slice none 0 0) 1 24 ht hi hz hs1 hb1 rfl (by decide) _ xss.length vs hs hrow' ⟨w.heap.size, 0, none⟩ 1 1 [u] hx rfl hnews h1 (by decide) (by unfold maxLen; omega) (by omega) (by simp; omega) (w.heap.size + 1) hsz ?_
    intro g' cap' w' hrow hgrow hat hlt
    have hg : g' = g ∨ g' = w.heap.size + 1 := by
      rcases hat with h | h
      · left; simp [Value.ownBlock] at h; omega
      · exact .inr h
    have hchg : Chg g (g + 1) w w' := by
      have := Chg.of_grown (g := g) (w := w.alloc (.cells #[u] 43)) (w' := w') (by simpa [Value.ownBlock] using hgrow)
      exact (Chg.refl _ _ _).alloc _ |>.trans this
    have hsz' := hchg.size
    have hszw : w.heap.size + 1 ≤ w'.heap.size := by have := hgrow.size; rw [hsz] at this; exact this
    have hvl : vs.length = xss.length := by have := hR.row.1; omega
    have hne : ∀ (k : Nat) (o : Obj), w.heap[k]? = some o → (∀ cs t f, o ≠ .cells cs t f) → k < g ∨ g + 1 ≤ k := by
      intro k o hk hno
      rcases hR.row.2 with ⟨h2, _⟩ | ⟨g2, cap2, cur, e, hb, hg2, _⟩
      · cases h2
      · simp only [Value.slice.injEq, Option.some.injEq, Addr.mk.injEq, and_true, true_and] at e
        obtain ⟨rfl, rfl⟩ := e
        by_cases hkg : k = g
        · subst hkg; rw [hg2] at hk; cases hk; exact absurd rfl (hno _ _ _)
        · omega
    refine h _ w' (.inr ⟨g', cap', vs ++ [u], fun i => if i < xss.length then A i else S, fun i => if i < xss.length then M i else w.heap.size, by rw [List.length_append]; rfl, by omega, hlt, ?_, fun i hi => ?_, fun i j hij hj => ?_⟩) (hchg.belowB hglo (by omega)) ⟨_, _, rfl⟩ (fun k o hk hno => (hchg.block k (box_lt hk) (hne k o hk hno)).trans hk)
    · rw [List.length_append]
      refine ⟨hrow.1, ?_⟩
      rcases hrow.2 with ⟨h2, _⟩ | ⟨g2, cap2, cur, e, hb, r⟩
      · simp at h2
      · simp only [Value.slice.injEq, Option.some.injEq, Addr.mk.injEq, and_true, true_and] at e
        obtain ⟨rfl, rfl⟩ := e
        exact .inr ⟨_, _, cur, rfl, Nat.le_refl _, r⟩
    · rw [hge]
      rw [List.length_append] at hi
      simp only [List.length_cons, List.length_nil] at hi
      by_cases hi2 : i < xss.length
      · obtain ⟨h3, y, hy, hoy⟩ := hR.each i hi2
        simp only [hi2, if_true]
        refine ⟨by omega, y, by rw [List.getElem?_append_left (by omega)]; exact hy, hoy.chg hchg (by omega)⟩
      · obtain rfl : i = xss.length := by omega
        simp only [Nat.lt_irrefl, if_false, if_true]
        refine ⟨by omega, u, by rw [List.getElem?_append_right (by omega), hvl, Nat.sub_self]; rfl, hu.chg hchg (by omega)⟩
    · rw [List.length_append] at hj
      simp only [List.length_cons, List.length_nil] at hj
      have hi2 : i < xss.length := by omega
      simp only [hi2, if_true]
      by_cases hj2 : j < xss.length
      · simp only [hj2, if_true]; exact hR.apart i j hij hj2
      · simp only [hj2, if_false]; have := (hR.each i hi2).1; omega
theorem wp_pushRow {P : Program} {w : World} {o : Oper} {a : Act} {K : Act → World → Prop} {Q : Exit → Act → World → Prop} (s x : Operand) (t : TypeId)
    (ho : o.op = .call { callee := .builtin .append, args := #[s, x], argTypes := #[t, t] })
    (ht : P.underlying t = some (.slice 43)) (hinfo : (P.info? 43).map (fun i => (i.zero, i.size, i.bytes)) = some (some (.slice none 0 0), 1, 24))
    (lo S : Nat) (v u : Value) (xss : List (List Int)) (xs : List Int) (hown : OwIntSS lo S w v xss) (hu : OwIntS S w.heap.size w u xs) (hu1 : u.oneCell' = true) (hs : a.eval s = v) (hx : a.eval x = .slice (some ⟨w.heap.size, 0, none⟩) 1 1)
    (hn : xss.length ≤ 1099511627776) (hlo : lo ≤ S) (hS : S ≤ w.heap.size)
    (h : ∀ v' w', OwIntSS lo w'.heap.size w' v' (xss ++ [xs]) → Below lo w w' → (∃ a c, v' = .slice a (xss.length + 1) c) → K (a.put o.dst v') w') : o.wp P a (w.alloc (.cells #[u] 43)) K Q :=
  wp_pushRowK s x t ho ht hinfo lo S v u xss xs hown hu hu1 hs hx hn hlo hS fun v' w' h1 h2 h3 _ => h v' w' h1 h2 h3
end Go.Proofs.Ytoolmknnmmecfaa
