/-
  Plain laws on sorting triples: one put in its place; buckets one behind the other.
-/
import Derived.Test.YtgdggkhdollieaaDoorTri
namespace Go.Proofs.YtgdggkhdollieaaDoor
set_option linter.unusedVariables false

/-- Not greater, by the first number, then by the second, then by the third. -/
def TLe (a b : Tri) : Prop := a.1 < b.1 ∨ (a.1 = b.1 ∧ (a.2.1 < b.2.1 ∨ (a.2.1 = b.2.1 ∧ a.2.2 ≤ b.2.2)))
instance (a b : Tri) : Decidable (TLe a b) := by unfold TLe; infer_instance
theorem TLe.trans {a b c : Tri} (h : TLe a b) (k : TLe b c) : TLe a c := by unfold TLe at *; omega
theorem TLe.total (a b : Tri) : TLe a b ∨ TLe b a := by unfold TLe; omega
theorem TLe.antisymm {a b : Tri} (h : TLe a b) (k : TLe b a) : a = b := by
  obtain ⟨a1, a2, a3⟩ := a; obtain ⟨b1, b2, b3⟩ := b
  unfold TLe at *
  simp only at h k
  obtain rfl : a1 = b1 := by omega
  obtain rfl : a2 = b2 := by omega
  obtain rfl : a3 = b3 := by omega
  rfl
theorem TLe.of_not {a b : Tri} (h : ¬ TLe a b) : TLe b a := (TLe.total a b).resolve_left h
structure SortOf (ys out : List Tri) : Prop where
  perm : out.Perm ys
  srt : out.Pairwise TLe
theorem sorted_unique : ∀ {xs ys : List Tri}, xs.Perm ys → xs.Pairwise TLe → ys.Pairwise TLe → xs = ys
  | [], ys, h, _, _ => (List.nil_perm.1 h).symm
  | x :: xs, [], h, _, _ => absurd h.length_eq (by simp)
  | x :: xs, y :: ys, h, hx, hy => by
    rw [List.pairwise_cons] at hx hy
    have h1 : x = y := by
      have e1 : x ∈ y :: ys := h.subset (by simp)
      have e2 : y ∈ x :: xs := h.symm.subset (by simp)
      rw [List.mem_cons] at e1 e2
      rcases e1 with e1 | e1
      · exact e1
      · rcases e2 with e2 | e2
        · exact e2.symm
        · exact (hx.1 y e2).antisymm (hy.1 x e1)
    subst h1
    rw [sorted_unique (List.perm_cons x |>.1 h) hx.2 hy.2]
theorem SortOf.unique {ys a b : List Tri} (h : SortOf ys a) (k : SortOf ys b) : a = b := sorted_unique (h.perm.trans k.perm.symm) h.srt k.srt
def sortT (ys : List Tri) : List Tri := ys.mergeSort fun a b => decide (TLe a b)
theorem sortT_is (ys : List Tri) : SortOf ys (sortT ys) := by
  refine ⟨List.mergeSort_perm ys _, ?_⟩
  have := List.pairwise_mergeSort (le := fun a b => decide (TLe a b)) (fun a b c h k => by simp only [decide_eq_true_eq] at *; exact h.trans k) (fun a b => by simpa using TLe.total a b) ys
  exact this.imp fun h => by simpa only [decide_eq_true_eq] using h
theorem SortOf.eq {ys a : List Tri} (h : SortOf ys a) : a = sortT ys := h.unique (sortT_is ys)
theorem sortT_length (ys : List Tri) : (sortT ys).length = ys.length := (sortT_is ys).perm.length_eq
theorem sortT_perm {xs ys : List Tri} (h : xs.Perm ys) : sortT xs = sortT ys := SortOf.eq ⟨(sortT_is xs).perm.trans h, (sortT_is xs).srt⟩
theorem sortT_sorted {ys : List Tri} (h : ys.Pairwise TLe) : sortT ys = ys := (SortOf.eq ⟨List.Perm.refl _, h⟩).symm
theorem sortT_mem {ys : List Tri} {y : Tri} : y ∈ sortT ys ↔ y ∈ ys := (sortT_is ys).perm.mem_iff

/-- One more, put in its place. -/
theorem sortT_ins {ys : List Tri} {x : Tri} {k : Nat} (hk : k ≤ ys.length) (hl : 0 < k → TLe ((sortT ys).getD (k - 1) triZ) x) (hr : ∀ i, k ≤ i → i < ys.length → ¬ TLe ((sortT ys).getD i triZ) x) :
    sortT (ys ++ [x]) = (sortT ys).take k ++ x :: (sortT ys).drop k := by
  have hs := sortT_is ys
  have hlen := sortT_length ys
  generalize sortT ys = L at *
  have hg : ∀ i (h : i < L.length), L.getD i triZ = L[i] := fun i h => by simp [h]
  have hs2 := List.pairwise_iff_getElem.1 hs.srt
  refine (SortOf.eq ⟨?_, ?_⟩).symm
  · have h1 : (L.take k ++ x :: L.drop k).Perm (x :: (L.take k ++ L.drop k)) := List.perm_middle
    rw [List.take_append_drop] at h1
    refine h1.trans ((hs.perm.cons x).trans ?_)
    exact (List.perm_append_singleton x ys).symm
  · rw [List.pairwise_append, List.pairwise_cons]
    have hL : ∀ a ∈ L.take k, TLe a x := fun a ha => by
      obtain ⟨i, hi, rfl⟩ := List.mem_iff_getElem.1 ha
      rw [List.length_take] at hi
      rw [List.getElem_take]
      have h0 := hl (by omega)
      rw [hg (k - 1) (by omega)] at h0
      by_cases e : i = k - 1
      · subst e; exact h0
      · exact (hs2 i (k - 1) (by omega) (by omega) (by omega)).trans h0
    have hR : ∀ b ∈ L.drop k, TLe x b := fun b hb => by
      obtain ⟨i, hi, rfl⟩ := List.mem_iff_getElem.1 hb
      rw [List.length_drop] at hi
      rw [List.getElem_drop]
      have h0 := hr (k + i) (by omega) (by omega)
      rw [hg _ (by omega)] at h0
      exact TLe.of_not h0
    refine ⟨hs.srt.sublist (List.take_sublist _ _), ⟨hR, hs.srt.sublist (List.drop_sublist _ _)⟩, fun a ha b hb => ?_⟩
    rw [List.mem_cons] at hb
    rcases hb with rfl | hb
    · exact hL a ha
    · exact (hL a ha).trans (hR b hb)

/-! Buckets. -/
def bucket (ys : List Tri) (t : Int) : List Tri := ys.filter fun y => y.1 == t
theorem bucket_yes {ys : List Tri} {y : Tri} : bucket (ys ++ [y]) y.1 = bucket ys y.1 ++ [y] := by simp [bucket, List.filter_append]
theorem bucket_no {ys : List Tri} {y : Tri} {t : Int} (h : t ≠ y.1) : bucket (ys ++ [y]) t = bucket ys t := by
  have : ¬ y.1 = t := fun e => h e.symm
  simp [bucket, List.filter_append, this]
theorem bucket_len (ys : List Tri) (t : Int) : (bucket ys t).length ≤ ys.length := List.length_filter_le _ _
theorem bucket_mem {ys : List Tri} {t : Int} {y : Tri} : y ∈ bucket ys t ↔ y ∈ ys ∧ y.1 = t := by simp [bucket]
def headsT (ys : List Tri) : List Int := ys.foldl (fun T y => if y.1 ∈ T then T else T ++ [y.1]) []
theorem headsT_snoc (ys : List Tri) (y : Tri) : headsT (ys ++ [y]) = if y.1 ∈ headsT ys then headsT ys else headsT ys ++ [y.1] := by
  unfold headsT; rw [List.foldl_append]; rfl
theorem list_snoc_rec {α : Type} {p : List α → Prop} (h0 : p []) (h1 : ∀ l x, p l → p (l ++ [x])) : ∀ l, p l := fun l => by
  have : ∀ m : List α, p m.reverse := fun m => by
    induction m with
    | nil => exact h0
    | cons x m ih => rw [List.reverse_cons]; exact h1 _ _ ih
  simpa using this l.reverse
theorem headsT_mem (ys : List Tri) : ∀ x, x ∈ headsT ys ↔ ∃ y ∈ ys, y.1 = x := by
  induction ys using list_snoc_rec with
  | h0 => intro x; simp [headsT]
  | h1 ys y ih =>
    intro x
    rw [headsT_snoc]
    split
    · rename_i h
      rw [ih x]
      constructor
      · rintro ⟨z, hz, rfl⟩; exact ⟨z, by simp [hz], rfl⟩
      · rintro ⟨z, hz, rfl⟩
        rw [List.mem_append, List.mem_singleton] at hz
        rcases hz with hz | rfl
        · exact ⟨z, hz, rfl⟩
        · exact (ih z.1).1 h
    · rw [List.mem_append, List.mem_singleton, ih x]
      constructor
      · rintro (⟨z, hz, rfl⟩ | rfl)
        · exact ⟨z, by simp [hz], rfl⟩
        · exact ⟨y, by simp, rfl⟩
      · rintro ⟨z, hz, rfl⟩
        rw [List.mem_append, List.mem_singleton] at hz
        rcases hz with hz | rfl
        · exact .inl ⟨z, hz, rfl⟩
        · exact .inr rfl
theorem headsT_nodup (ys : List Tri) : (headsT ys).Nodup := by
  induction ys using list_snoc_rec with
  | h0 => simp [headsT]
  | h1 ys y ih =>
    rw [headsT_snoc]
    split
    · exact ih
    · rename_i h
      rw [List.nodup_append]
      exact ⟨ih, by simp, fun a ha b hb e => by rw [List.mem_singleton] at hb; subst e; subst hb; exact h ha⟩
theorem headsT_len (ys : List Tri) : (headsT ys).length ≤ ys.length := by
  induction ys using list_snoc_rec with
  | h0 => simp [headsT]
  | h1 ys y ih =>
    rw [headsT_snoc, List.length_append, List.length_singleton]
    split
    · omega
    · rw [List.length_append, List.length_singleton]; omega
theorem bucket_empty {ys : List Tri} {t : Int} : bucket ys t = [] ↔ t ∉ headsT ys := by
  rw [headsT_mem, bucket, List.filter_eq_nil_iff]
  constructor
  · rintro h ⟨y, hy, e⟩; exact h y hy (by simpa using e)
  · intro h y hy e; exact h ⟨y, hy, by simpa using e⟩
theorem headsT_new {ys : List Tri} {y : Tri} (h : (bucket ys y.1).length = 0) : headsT (ys ++ [y]) = headsT ys ++ [y.1] := by
  rw [headsT_snoc, if_neg (bucket_empty.1 (List.eq_nil_of_length_eq_zero h))]
theorem headsT_old {ys : List Tri} {y : Tri} (h : (bucket ys y.1).length ≠ 0) : headsT (ys ++ [y]) = headsT ys := by
  rw [headsT_snoc, if_pos]
  refine Classical.byContradiction fun hc => h ?_
  rw [bucket_empty.2 hc]; rfl
def flatB (ys : List Tri) (T : List Int) : List Tri := T.flatMap fun t => sortT (bucket ys t)
theorem flatB_snoc (ys : List Tri) (T : List Int) (t : Int) : flatB ys (T ++ [t]) = flatB ys T ++ sortT (bucket ys t) := by simp [flatB]
theorem filter_split {α : Type} (p : α → Bool) : ∀ l : List α, l.Perm (l.filter p ++ l.filter fun x => !p x)
  | [] => List.Perm.refl _
  | x :: l => by
    cases h : p x
    · rw [List.filter_cons_of_neg (by simp [h]), List.filter_cons_of_pos (by simp [h])]
      exact ((filter_split p l).cons x).trans List.perm_middle.symm
    · rw [List.filter_cons_of_pos h, List.filter_cons_of_neg (by simp [h]), List.cons_append]
      exact (filter_split p l).cons x
theorem flatMap_same {α β : Type} {f g : α → List β} : ∀ (l : List α), (∀ x ∈ l, f x = g x) → l.flatMap f = l.flatMap g
  | [], _ => rfl
  | x :: l, h => by rw [List.flatMap_cons, List.flatMap_cons, h x (by simp), flatMap_same l fun y hy => h y (by simp [hy])]
theorem flatB_perm : ∀ (T : List Int) (ys : List Tri), T.Nodup → (∀ y ∈ ys, y.1 ∈ T) → (flatB ys T).Perm ys
  | [], ys, _, h => by
    have : ys = [] := by
      cases ys with
      | nil => rfl
      | cons y ys => exact absurd (h y (by simp)) (by simp)
    subst this; exact List.Perm.refl _
  | t :: T, ys, hn, h => by
    rw [List.nodup_cons] at hn
    have h1 : flatB ys (t :: T) = sortT (bucket ys t) ++ flatB ys T := rfl
    have h2 : flatB ys T = flatB (ys.filter fun y => !(y.1 == t)) T := by
      unfold flatB
      refine flatMap_same _ fun u hu => ?_
      have hut : u ≠ t := fun e => hn.1 (e ▸ hu)
      congr 1
      unfold bucket
      rw [List.filter_filter]
      refine List.filter_congr fun y _ => ?_
      by_cases e : y.1 = u
      · have : ¬ y.1 = t := fun e2 => hut (e.symm.trans e2)
        simp [e, hut]
      · simp [e]
    rw [h1, h2]
    have h3 := flatB_perm T (ys.filter fun y => !(y.1 == t)) hn.2 fun y hy => by
      rw [List.mem_filter] at hy
      have := h y hy.1
      rw [List.mem_cons] at this
      rcases this with e | e
      · rw [e] at hy; simp at hy
      · exact e
    exact ((sortT_is (bucket ys t)).perm.append h3).trans (filter_split _ ys).symm
theorem flatB_is {ys : List Tri} {S : List Int} (hp : S.Perm (headsT ys)) (hs : S.Pairwise (· ≤ ·)) : flatB ys S = sortT ys := by
  have hn : S.Nodup := hp.symm.nodup (headsT_nodup ys)
  refine SortOf.eq ⟨flatB_perm S ys hn fun y hy => hp.symm.subset ((headsT_mem ys _).2 ⟨y, hy, rfl⟩), ?_⟩
  unfold flatB
  rw [List.pairwise_flatMap]
  refine ⟨fun t _ => (sortT_is _).srt, ?_⟩
  have h2 : S.Pairwise fun a b => a ≤ b ∧ a ≠ b := hs.and hn
  refine h2.imp fun {a b} hab x hx y hy => ?_
  rw [sortT_mem, bucket_mem] at hx hy
  left; omega
end Go.Proofs.YtgdggkhdollieaaDoor
