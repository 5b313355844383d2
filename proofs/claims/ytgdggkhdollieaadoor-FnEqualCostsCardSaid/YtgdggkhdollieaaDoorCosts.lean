/-
  Plain laws on least costs: edge by edge; the least that waits first.
-/
import Derived.Test.YtgdggkhdollieaaDoorDist
namespace Go.Proofs.YtgdggkhdollieaaDoor
open Go.RowKit
set_option linter.unusedVariables false
/-! Costs: edge by edge. -/
def costR (ys : List Tri) (u v x : Nat) : Prop := ∃ e ∈ ys, e.1 = (u : Int) ∧ e.2.1 = (v : Int) ∧ e.2.2 = (x : Int)
def costEdge (D : List Int) (e : Tri) : List Int :=
  if 0 ≤ D.getD e.1.toNat 0 ∧ (D.getD e.2.1.toNat 0 < 0 ∨ D.getD e.1.toNat 0 + e.2.2 < D.getD e.2.1.toNat 0) then D.set e.2.1.toNat (D.getD e.1.toNat 0 + e.2.2) else D
def costsTo (ys : List Tri) (D : List Int) : Nat → List Int
  | 0 => D
  | t + 1 => ys.foldl costEdge (costsTo ys D t)
structure Cost (R : Nat → Nat → Nat → Prop) (n s : Nat) (D : List Int) : Prop where
  len : D.length = n
  lt : s < n
  src : D.getD s 0 = 0
  low : ∀ v, v < n → -1 ≤ D.getD v 0
  way : ∀ v, v < n → 0 ≤ D.getD v 0 → ∃ k, Way R s k v (D.getD v 0).toNat
/-- At least as good. -/
def Better (n : Nat) (D D' : List Int) : Prop := ∀ v, v < n → 0 ≤ D.getD v 0 → 0 ≤ D'.getD v 0 ∧ D'.getD v 0 ≤ D.getD v 0
theorem Better.refl (n : Nat) (D : List Int) : Better n D D := fun v _ h => ⟨h, Int.le_refl _⟩
theorem Better.trans {n : Nat} {A B C : List Int} (h : Better n A B) (k : Better n B C) : Better n A C := fun v hv h0 => by
  have h1 := h v hv h0
  have h2 := k v hv h1.1
  exact ⟨h2.1, by omega⟩
theorem Cost.step {R : Nat → Nat → Nat → Prop} {n s a b x : Nat} {D : List Int} (h : Cost R n s D) (ha : a < n) (hb : b < n) (hab : a ≠ b) (hr : R a b x) (e : Tri) (he1 : e.1 = (a : Int)) (he2 : e.2.1 = (b : Int)) (he3 : e.2.2 = (x : Int)) :
    Cost R n s (costEdge D e) ∧ Better n D (costEdge D e) ∧ (0 ≤ D.getD a 0 → 0 ≤ (costEdge D e).getD b 0 ∧ (costEdge D e).getD b 0 ≤ D.getD a 0 + (x : Int)) := by
  unfold costEdge
  rw [he1, he2, he3, Int.toNat_natCast, Int.toNat_natCast]
  split
  · rename_i hc
    obtain ⟨c1, c2⟩ := hc
    have hlb : b < D.length := by rw [h.len]; exact hb
    have hbb : (D.set b (D.getD a 0 + (x : Int))).getD b 0 = D.getD a 0 + (x : Int) := getD_set_eq _ hlb
    have hv : ∀ v, v ≠ b → (D.set b (D.getD a 0 + (x : Int))).getD v 0 = D.getD v 0 := fun v hv => getD_set_ne' _ hv
    have hlen : (D.set b (D.getD a 0 + (x : Int))).length = n := by simpa using h.len
    generalize D.set b (D.getD a 0 + (x : Int)) = D' at *
    refine ⟨⟨hlen, h.lt, ?_, fun v hvn => ?_, fun v hvn h0 => ?_⟩, fun v hvn h0 => ?_, fun _ => by omega⟩
    · rw [hv s (fun e => by subst e; have := h.src; omega)]; exact h.src
    · by_cases e : v = b
      · subst e; rw [hbb]; omega
      · rw [hv v e]; exact h.low v hvn
    · by_cases e : v = b
      · subst e
        obtain ⟨k, hk⟩ := h.way a ha c1
        exact ⟨k + 1, a, _, x, hk, hr, by rw [hbb]; omega⟩
      · rw [hv v e] at h0 ⊢; exact h.way v hvn h0
    · by_cases e : v = b
      · subst e; rw [hbb]; omega
      · rw [hv v e]; omega
  · rename_i hc
    refine ⟨h, Better.refl n D, fun h0 => ?_⟩
    have h1 : ¬ (D.getD b 0 < 0 ∨ D.getD a 0 + (x : Int) < D.getD b 0) := fun h2 => hc ⟨h0, h2⟩
    omega
theorem Cost.all {R : Nat → Nat → Nat → Prop} {n s : Nat} : ∀ (ys : List Tri) (D : List Int), Cost R n s D →
    (∀ e ∈ ys, ∃ a b x : Nat, e.1 = (a : Int) ∧ e.2.1 = (b : Int) ∧ e.2.2 = (x : Int) ∧ a < n ∧ b < n ∧ a ≠ b ∧ R a b x) →
    Cost R n s (ys.foldl costEdge D) ∧ Better n D (ys.foldl costEdge D) ∧ ∀ u v x, costR ys u v x → 0 ≤ D.getD u 0 → 0 ≤ (ys.foldl costEdge D).getD v 0 ∧ (ys.foldl costEdge D).getD v 0 ≤ D.getD u 0 + (x : Int)
  | [], D, h, _ => ⟨h, Better.refl n D, fun u v x ⟨e, he, _⟩ => by cases he⟩
  | y :: ys, D, h, hy => by
    obtain ⟨a, b, x, h1, h2, h3, h4, h5, h6, h7⟩ := hy y (by simp)
    obtain ⟨s1, s2, s3⟩ := h.step h4 h5 h6 h7 y h1 h2 h3
    obtain ⟨t1, t2, t3⟩ := Cost.all ys _ s1 fun e he => hy e (by simp [he])
    rw [List.foldl_cons]
    refine ⟨t1, s2.trans t2, fun u v z hr h0 => ?_⟩
    obtain ⟨e, he, e1, e2, e3⟩ := hr
    rw [List.mem_cons] at he
    rcases he with rfl | he
    · obtain rfl : u = a := by omega
      obtain rfl : v = b := by omega
      obtain rfl : z = x := by omega
      have h8 := s3 h0
      have h9 := t2 v h5 h8.1
      exact ⟨h9.1, by omega⟩
    · obtain ⟨a', b', x', h1', h2', h3', h4', h5', h6', h7'⟩ := hy e (by simp [he])
      obtain rfl : u = a' := by omega
      have h8 := s2 u h4' h0
      have h9 := t3 u v z ⟨e, he, e1, e2, e3⟩ h8.1
      exact ⟨h9.1, by omega⟩
theorem Cost.start {R : Nat → Nat → Nat → Prop} {n s : Nat} (hs : s < n) : Cost R n s ((List.replicate n (-1)).set s 0) := by
  have hl : s < (List.replicate n (-1 : Int)).length := by simpa using hs
  have h0 : ((List.replicate n (-1 : Int)).set s 0).getD s 0 = 0 := getD_set_eq 0 hl
  have hv : ∀ v, v < n → ((List.replicate n (-1 : Int)).set s 0).getD v 0 = if v = s then 0 else -1 := fun v hv => by
    split
    · rename_i e; subst e; exact h0
    · rename_i e; rw [getD_set_ne' 0 e]; simp [hv]
  refine ⟨by simp, hs, h0, fun v h => ?_, fun v h h1 => ?_⟩
  · rw [hv v h]; split <;> omega
  · rw [hv v h] at h1 ⊢
    split at h1
    · rename_i e; subst e; exact ⟨0, rfl, by simp⟩
    · omega
theorem costs_to {n s : Nat} {ys : List Tri} (hs : s < n) (hy : ∀ e ∈ ys, ∃ a b x : Nat, e.1 = (a : Int) ∧ e.2.1 = (b : Int) ∧ e.2.2 = (x : Int) ∧ a < n ∧ b < n ∧ a ≠ b) :
    ∀ t, Cost (costR ys) n s (costsTo ys ((List.replicate n (-1)).set s 0) t) ∧ ∀ k v c, k ≤ t → Way (costR ys) s k v c → 0 ≤ (costsTo ys ((List.replicate n (-1)).set s 0) t).getD v 0 ∧ (costsTo ys ((List.replicate n (-1)).set s 0) t).getD v 0 ≤ (c : Int)
  | 0 => ⟨Cost.start hs, fun k v c hk hw => by
      have : k = 0 := by omega
      subst this
      obtain ⟨rfl, rfl⟩ := hw
      have := (Cost.start (R := costR ys) hs).src
      rw [costsTo, this]; exact ⟨Int.le_refl _, Int.le_refl _⟩⟩
  | t + 1 => by
    obtain ⟨h1, h2⟩ := costs_to hs hy t
    have hy' : ∀ e ∈ ys, ∃ a b x : Nat, e.1 = (a : Int) ∧ e.2.1 = (b : Int) ∧ e.2.2 = (x : Int) ∧ a < n ∧ b < n ∧ a ≠ b ∧ costR ys a b x := fun e he => by
      obtain ⟨a, b, x, e1, e2, e3, e4, e5, e6⟩ := hy e he
      exact ⟨a, b, x, e1, e2, e3, e4, e5, e6, e, he, e1, e2, e3⟩
    obtain ⟨t1, t2, t3⟩ := h1.all ys _ hy'
    rw [costsTo]
    refine ⟨t1, fun k v c hk hw => ?_⟩
    cases k with
    | zero =>
      obtain ⟨rfl, rfl⟩ := hw
      have := t1.src
      rw [this]; exact ⟨Int.le_refl _, Int.le_refl _⟩
    | succ k =>
      obtain ⟨u, c', x, hw', hr, rfl⟩ := hw
      have h3 := h2 k u c' (by omega) hw'
      have h4 := t3 u v x hr h3.1
      exact ⟨h4.1, by omega⟩
/-- Among n + 1 numbers under n two are equal. -/
theorem two_equal : ∀ (n : Nat) (p : Nat → Nat), (∀ i, i ≤ n → p i < n) → ∃ i j, i < j ∧ j ≤ n ∧ p i = p j
  | 0, p, h => by have := h 0 (Nat.le_refl _); omega
  | n + 1, p, h => by
    by_cases hc : ∃ i, i ≤ n ∧ p i = p (n + 1)
    · obtain ⟨i, hi, he⟩ := hc
      exact ⟨i, n + 1, by omega, Nat.le_refl _, he⟩
    · have hne : ∀ i, i ≤ n → p i ≠ p (n + 1) := fun i hi he => hc ⟨i, hi, he⟩
      obtain ⟨i, j, h1, h2, h3⟩ := two_equal n (fun i => if p i = n then p (n + 1) else p i) fun i hi => by
        have a1 := h i (by omega); have a2 := h (n + 1) (Nat.le_refl _); have a3 := hne i hi
        split <;> omega
      have b1 := hne i (by omega); have b2 := hne j h2
      refine ⟨i, j, h1, by omega, ?_⟩
      split at h3 <;> split at h3 <;> omega
theorem way_path {R : Nat → Nat → Nat → Prop} {s : Nat} : ∀ k v c, Way R s k v c → ∃ p q : Nat → Nat, p k = v ∧ q k = c ∧ ∀ i, i ≤ k → Way R s i (p i) (q i) ∧ (i < k → ∃ x, R (p i) (p (i + 1)) x ∧ q (i + 1) = q i + x)
  | 0, v, c, h => ⟨fun _ => v, fun _ => c, rfl, rfl, fun i hi => by
      have : i = 0 := by omega
      subst this
      exact ⟨h, fun h => by omega⟩⟩
  | k + 1, v, c, ⟨u, c', x, hw, hr, hc⟩ => by
    obtain ⟨p, q, h1, h2, h3⟩ := way_path k u c' hw
    refine ⟨fun i => if i ≤ k then p i else v, fun i => if i ≤ k then q i else c, if_neg (by omega), if_neg (by omega), fun i hi => ?_⟩
    by_cases e : i ≤ k
    · simp only [if_pos e]
      refine ⟨(h3 i e).1, fun _ => ?_⟩
      by_cases e2 : i + 1 ≤ k
      · simp only [if_pos e2]; exact (h3 i e).2 (by omega)
      · simp only [if_neg e2]
        have : i = k := by omega
        subst this
        rw [h1, h2]
        exact ⟨x, hr, hc⟩
    · have : i = k + 1 := by omega
      subst this
      simp only [if_neg e]
      exact ⟨⟨u, c', x, hw, hr, hc⟩, fun h => by omega⟩
theorem way_cut {R : Nat → Nat → Nat → Prop} {n s : Nat} (hs : s < n) (hR : ∀ u v x, R u v x → v < n) : ∀ k v c, Way R s k v c → ∃ k' c', k' < n ∧ c' ≤ c ∧ Way R s k' v c' := by
  intro k
  induction k using Nat.strongRecOn with
  | _ k ih =>
    intro v c hw
    by_cases hk : k < n
    · exact ⟨k, c, hk, Nat.le_refl _, hw⟩
    · obtain ⟨p, q, hp, hq, h⟩ := way_path k v c hw
      have hlt : ∀ i, i ≤ n → p i < n := fun i hi => by
        have h1 := (h i (by omega)).1
        cases i with
        | zero => rw [h1.1]; exact hs
        | succ i => obtain ⟨u, c', x, _, hr, _⟩ := h1; exact hR u _ x hr
      obtain ⟨i, j, hij, hjn, he⟩ := two_equal n p hlt
      have hmono : ∀ m, i + m ≤ k → q i ≤ q (i + m) := by
        intro m
        induction m with
        | zero => intro _; exact Nat.le_refl _
        | succ m im =>
          intro hm
          obtain ⟨x, -, hx⟩ := (h (i + m) (by omega)).2 (by omega)
          have := im (by omega)
          have e : i + (m + 1) = i + m + 1 := by omega
          rw [e]; omega
      have hij2 := hmono (j - i) (by omega)
      rw [show i + (j - i) = j by omega] at hij2
      have hcut : ∀ m, j + m ≤ k → ∃ c', c' + q j = q i + q (j + m) ∧ Way R s (i + m) (p (j + m)) c' := by
        intro m
        induction m with
        | zero => intro _; exact ⟨q i, rfl, by rw [Nat.add_zero, Nat.add_zero, ← he]; exact (h i (by omega)).1⟩
        | succ m im =>
          intro hm
          obtain ⟨c', h1, h2⟩ := im (by omega)
          obtain ⟨x, hx1, hx2⟩ := (h (j + m) (by omega)).2 (by omega)
          refine ⟨c' + x, ?_, ?_⟩
          · rw [show j + (m + 1) = j + m + 1 by omega]; omega
          · rw [show i + (m + 1) = (i + m) + 1 by omega, show j + (m + 1) = j + m + 1 by omega]
            exact ⟨_, c', x, h2, hx1, rfl⟩
      obtain ⟨c', h1, h2⟩ := hcut (k - j) (by omega)
      rw [show j + (k - j) = k by omega, hp] at h2
      rw [show j + (k - j) = k by omega, hq] at h1
      obtain ⟨k', c'', h3, h4, h5⟩ := ih (i + (k - j)) (by omega) v c' h2
      exact ⟨k', c'', h3, by omega, h5⟩
theorem costs_dist {n s : Nat} {ys : List Tri} (hs : s < n) (hy : ∀ e ∈ ys, ∃ a b x : Nat, e.1 = (a : Int) ∧ e.2.1 = (b : Int) ∧ e.2.2 = (x : Int) ∧ a < n ∧ b < n ∧ a ≠ b) :
    IsDist (costR ys) n s (costsTo ys ((List.replicate n (-1)).set s 0) n) := by
  obtain ⟨h, hw⟩ := costs_to hs hy n
  have hR : ∀ u v x, costR ys u v x → u < n ∧ v < n := fun u v x ⟨e, he, e1, e2, _⟩ => by
    obtain ⟨a, b, z, h1, h2, h3, h4, h5, h6⟩ := hy e he
    omega
  refine ⟨h.len, h.lt, h.src, h.low, h.way, fun u v x hr h0 => ?_⟩
  obtain ⟨k, hk⟩ := h.way u (hR u v x hr).1 h0
  obtain ⟨k', c', h1, h2, h3⟩ := way_cut hs (fun u v x hr => (hR u v x hr).2) (k + 1) v _ ⟨u, _, x, hk, hr, rfl⟩
  have := hw k' v c' (by omega) h3
  omega
theorem costsTo_length (ys : List Tri) (D : List Int) : ∀ t, (costsTo ys D t).length = D.length
  | 0 => rfl
  | t + 1 => by
    rw [costsTo, ← costsTo_length ys D t]
    generalize costsTo ys D t = E
    induction ys generalizing E with
    | nil => rfl
    | cons y ys ih => rw [List.foldl_cons, ih]; unfold costEdge; split <;> simp

/-! Costs: the least of those that wait first. -/
structure Dij (R : Nat → Nat → Nat → Prop) (n s : Nat) (D : List Int) (H : List (Nat × Nat)) (pend : Nat → Nat → Nat → Prop) : Prop where
  len : D.length = n
  lt : s < n
  low : ∀ v, v < n → -1 ≤ D.getD v 0
  way : ∀ v, v < n → 0 ≤ D.getD v 0 → ∃ k, Way R s k v (D.getD v 0).toNat
  hway : ∀ c v, (c, v) ∈ H → v < n ∧ ∃ k, Way R s k v c
  mono : ∀ c v, (c, v) ∈ H → ∀ u, u < n → D.getD u 0 ≤ (c : Int)
  done : ∀ u v x, R u v x → 0 ≤ D.getD u 0 → (0 ≤ D.getD v 0 ∧ D.getD v 0 ≤ D.getD u 0 + (x : Int)) ∨ (D.getD v 0 = -1 ∧ ∃ c : Nat, (c, v) ∈ H ∧ (c : Int) ≤ D.getD u 0 + (x : Int)) ∨ pend u v x
  src : D.getD s 0 = 0 ∨ (D.getD s 0 = -1 ∧ (0, s) ∈ H)
  bnd : ∀ v, v < n → D.getD v 0 + 20 * (unset D : Int) ≤ 20 * (n : Int)
  hbnd : ∀ c v, (c, v) ∈ H → (c : Int) + 20 * (unset D : Int) ≤ 20 * (n : Int)
section
variable {R : Nat → Nat → Nat → Prop} {n s : Nat} {D : List Int} {H : List (Nat × Nat)}
theorem unset_le (D : List Int) : unset D ≤ D.length := List.countP_le_length
theorem Dij.start (hs : s < n) (hR : ∀ u v x, R u v x → u < n ∧ v < n) : Dij R n s (List.replicate n (-1)) [(0, s)] fun _ _ _ => False := by
  have hv : ∀ v, v < n → (List.replicate n (-1 : Int)).getD v 0 = -1 := fun v hv => by simp [hv]
  have hu0 : unset (List.replicate n (-1)) = n := by simp [unset, List.countP_replicate]
  have hm : ∀ c v, (c, v) ∈ [(0, s)] → c = 0 ∧ v = s := fun c v h => by simpa using h
  refine ⟨by simp, hs, fun v h => by rw [hv v h]; exact Int.le_refl _, fun v h h1 => by rw [hv v h] at h1; omega, fun c v h => ?_, fun c v h u hu => ?_, fun u v x hr h0 => ?_, .inr ⟨hv s hs, by simp⟩, fun v h => ?_, fun c v h => ?_⟩
  · obtain ⟨rfl, rfl⟩ := hm c v h; exact ⟨hs, 0, rfl, rfl⟩
  · obtain ⟨rfl, rfl⟩ := hm c v h; rw [hv u hu]; omega
  · rw [hv u (hR u v x hr).1] at h0; omega
  · rw [hv v h, hu0]; omega
  · obtain ⟨rfl, rfl⟩ := hm c v h; rw [hu0]; omega
theorem Dij.perm {pend : Nat → Nat → Nat → Prop} {H' : List (Nat × Nat)} (h : Dij R n s D H pend) (hp : ∀ y, y ∈ H ↔ y ∈ H') : Dij R n s D H' pend :=
  ⟨h.len, h.lt, h.low, h.way, fun c v hm => h.hway c v ((hp _).2 hm), fun c v hm => h.mono c v ((hp _).2 hm), fun u v x hr h0 => by
    rcases h.done u v x hr h0 with h1 | ⟨h1, c, h2, h3⟩ | h1
    · exact .inl h1
    · exact .inr (.inl ⟨h1, c, (hp _).1 h2, h3⟩)
    · exact .inr (.inr h1), h.src.imp id fun h1 => ⟨h1.1, (hp _).1 h1.2⟩, h.bnd, fun c v hm => h.hbnd c v ((hp _).2 hm)⟩
theorem Dij.old {c v : Nat} (h : Dij R n s D ((c, v) :: H) fun _ _ _ => False) (hne : D.getD v 0 ≠ -1) : Dij R n s D H fun _ _ _ => False := by
  have hm : ∀ c' v', (c', v') ∈ (c, v) :: H → D.getD v' 0 = -1 → (c', v') ∈ H := fun c' v' hm he => by
    rw [List.mem_cons] at hm
    rcases hm with hm | hm
    · injection hm with h1 h2; subst h2; exact absurd he hne
    · exact hm
  refine ⟨h.len, h.lt, h.low, h.way, fun c v hm => h.hway c v (by simp [hm]), fun c v hm => h.mono c v (by simp [hm]), fun u v x hr h0 => ?_, ?_, h.bnd, fun c v hm => h.hbnd c v (by simp [hm])⟩
  · rcases h.done u v x hr h0 with h1 | ⟨h1, c, h2, h3⟩ | h1
    · exact .inl h1
    · exact .inr (.inl ⟨h1, c, hm _ _ h2 h1, h3⟩)
    · exact h1.elim
  · exact h.src.imp id fun h1 => ⟨h1.1, hm _ _ h1.2 h1.1⟩
structure DScan (n : Nat) (D : List Int) (v c : Nat) : Prop where
  lt : v < n
  at_ : D.getD v 0 = (c : Int)
  top : ∀ u, u < n → D.getD u 0 ≤ (c : Int)
  bnd : (c : Int) + 20 * (unset D : Int) + 20 ≤ 20 * (n : Int)
theorem Dij.settle {c v : Nat} (h : Dij R n s D ((c, v) :: H) fun _ _ _ => False) (he : D.getD v 0 = -1) (hmin : ∀ c' v', (c', v') ∈ H → c ≤ c') (L : List (Nat × Nat)) (hL : ∀ b x, R v b x → (b, x) ∈ L) (hirr : ∀ b x, R v b x → b ≠ v) :
    Dij R n s (D.set v (c : Int)) H (fun a b x => a = v ∧ (b, x) ∈ L.drop 0) ∧ DScan n (D.set v (c : Int)) v c ∧ unset (D.set v (c : Int)) + 1 = unset D := by
  obtain ⟨hvn, hvw⟩ := h.hway c v (by simp)
  have hlv : v < D.length := by rw [h.len]; exact hvn
  have hvv : (D.set v (c : Int)).getD v 0 = (c : Int) := getD_set_eq _ hlv
  have hv : ∀ u, u ≠ v → (D.set v (c : Int)).getD u 0 = D.getD u 0 := fun u hu => getD_set_ne' _ hu
  have hlen : (D.set v (c : Int)).length = n := by simpa using h.len
  have hu := unset_set (x := (c : Int)) hlv he (by omega)
  have hm : ∀ c' v', (c', v') ∈ (c, v) :: H → c ≤ c' ∧ (v' ≠ v → (c', v') ∈ H) := fun c' v' hm => by
    rw [List.mem_cons] at hm
    rcases hm with hm | hm
    · injection hm with h1 h2; subst h1; subst h2; exact ⟨Nat.le_refl _, fun h => absurd rfl h⟩
    · exact ⟨hmin _ _ hm, fun _ => hm⟩
  have hb := h.hbnd c v (by simp)
  have hmo := h.mono c v (by simp)
  generalize D.set v (c : Int) = D' at *
  refine ⟨⟨hlen, h.lt, fun u hun => ?_, fun u hun h0 => ?_, fun c v hm => h.hway c v (by simp [hm]), fun c' v' hm' u hun => ?_, fun a b x hr h0 => ?_, ?_, fun u hun => ?_, fun c' v' hm' => ?_⟩, ⟨hvn, hvv, fun u hun => ?_, by omega⟩, hu⟩
  · by_cases e : u = v
    · subst e; rw [hvv]; omega
    · rw [hv u e]; exact h.low u hun
  · by_cases e : u = v
    · subst e; rw [hvv]; simpa using hvw
    · rw [hv u e] at h0 ⊢; exact h.way u hun h0
  · by_cases e : u = v
    · subst e; rw [hvv]; have := hmin _ _ hm'; omega
    · rw [hv u e]; exact h.mono c' v' (by simp [hm']) u hun
  · by_cases ea : a = v
    · subst ea; exact .inr (.inr ⟨rfl, hL b x hr⟩)
    · rw [hv a ea] at h0 ⊢
      rcases h.done a b x hr h0 with h1 | ⟨h1, c', h2, h3⟩ | h1
      · have e : b ≠ v := fun e => by subst e; omega
        rw [hv b e]; exact .inl h1
      · have h4 := hm _ _ h2
        by_cases e : b = v
        · subst e; rw [hvv]; exact .inl ⟨by omega, by omega⟩
        · rw [hv b e]; exact .inr (.inl ⟨h1, c', h4.2 e, h3⟩)
      · exact h1.elim
  · rcases h.src with h1 | ⟨h1, h2⟩
    · left; rw [hv s (fun e => by subst e; omega)]; exact h1
    · have h3 := hm _ _ h2
      by_cases e : s = v
      · left; rw [e, hvv]; omega
      · right; rw [hv s e]; exact ⟨h1, h3.2 e⟩
  · by_cases e : u = v
    · subst e; rw [hvv]; omega
    · rw [hv u e]; have := h.bnd u hun; omega
  · have := h.hbnd c' v' (by simp [hm']); omega
  · by_cases e : u = v
    · subst e; rw [hvv]; exact Int.le_refl _
    · rw [hv u e]; exact hmo u hun
theorem drop_memP {L : List (Nat × Nat)} {j : Nat} {y : Nat × Nat} (hj : j < L.length) (h : y ∈ L.drop j) : y = L.getD j (0, 0) ∨ y ∈ L.drop (j + 1) := by
  rw [List.drop_eq_getElem_cons hj, List.mem_cons] at h
  rcases h with h | h
  · left; rw [h]; simp [hj]
  · exact .inr h
theorem Dij.skip {c v j b x : Nat} {L : List (Nat × Nat)} (h : Dij R n s D H fun a b x => a = v ∧ (b, x) ∈ L.drop j) (hs : DScan n D v c) (hj : j < L.length) (hb : L.getD j (0, 0) = (b, x)) (hbn : b < n) (hne : D.getD b 0 ≠ -1) : Dij R n s D H fun a b x => a = v ∧ (b, x) ∈ L.drop (j + 1) := by
  refine ⟨h.len, h.lt, h.low, h.way, h.hway, h.mono, fun a b' x' hr h0 => ?_, h.src, h.bnd, h.hbnd⟩
  rcases h.done a b' x' hr h0 with h1 | h1 | ⟨rfl, h1⟩
  · exact .inl h1
  · exact .inr (.inl h1)
  · rcases drop_memP hj h1 with h2 | h2
    · rw [hb] at h2
      injection h2 with e1 e2
      subst e1; subst e2
      have h3 := h.low b' hbn; have h4 := hs.top b' hbn; have h5 := hs.at_
      exact .inl ⟨by omega, by omega⟩
    · exact .inr (.inr ⟨rfl, h2⟩)
theorem Dij.push {c v j b x : Nat} {L : List (Nat × Nat)} (h : Dij R n s D H fun a b x => a = v ∧ (b, x) ∈ L.drop j) (hs : DScan n D v c) (hj : j < L.length) (hb : L.getD j (0, 0) = (b, x)) (hbn : b < n) (he : D.getD b 0 = -1) (hr : R v b x) (hx : x ≤ 20) :
    Dij R n s D ((c + x, b) :: H) fun a b x => a = v ∧ (b, x) ∈ L.drop (j + 1) := by
  have hat := hs.at_
  refine ⟨h.len, h.lt, h.low, h.way, fun c' v' hm => ?_, fun c' v' hm u hun => ?_, fun a b' x' hr h0 => ?_, h.src.imp id fun h1 => ⟨h1.1, by simp [h1.2]⟩, h.bnd, fun c' v' hm => ?_⟩
  · rw [List.mem_cons] at hm
    rcases hm with hm | hm
    · injection hm with h1 h2; subst h1; subst h2
      obtain ⟨k, hk⟩ := h.way v hs.lt (by omega)
      exact ⟨hbn, k + 1, v, c, x, by rw [hat] at hk; simpa using hk, hr, rfl⟩
    · exact h.hway c' v' hm
  · rw [List.mem_cons] at hm
    rcases hm with hm | hm
    · injection hm with h1 h2; subst h1; have := hs.top u hun; omega
    · exact h.mono c' v' hm u hun
  · rcases h.done a b' x' hr h0 with h1 | ⟨h1, c', h2, h3⟩ | ⟨rfl, h1⟩
    · exact .inl h1
    · exact .inr (.inl ⟨h1, c', by simp [h2], h3⟩)
    · rcases drop_memP hj h1 with h2 | h2
      · rw [hb] at h2
        injection h2 with e1 e2
        subst e1; subst e2
        exact .inr (.inl ⟨he, c + x', by simp, by omega⟩)
      · exact .inr (.inr ⟨rfl, h2⟩)
  · rw [List.mem_cons] at hm
    rcases hm with hm | hm
    · injection hm with h1 h2; subst h1; have := hs.bnd; omega
    · exact h.hbnd c' v' hm
theorem Dij.fin {v j : Nat} {L : List (Nat × Nat)} (h : Dij R n s D H fun a b x => a = v ∧ (b, x) ∈ L.drop j) (hj : L.length ≤ j) : Dij R n s D H fun _ _ _ => False := by
  refine ⟨h.len, h.lt, h.low, h.way, h.hway, h.mono, fun a b x hr h0 => ?_, h.src, h.bnd, h.hbnd⟩
  rcases h.done a b x hr h0 with h1 | h1 | ⟨rfl, h1⟩
  · exact .inl h1
  · exact .inr (.inl h1)
  · rw [List.drop_of_length_le hj] at h1; cases h1
theorem Dij.dist (h : Dij R n s D [] fun _ _ _ => False) : IsDist R n s D := by
  refine ⟨h.len, h.lt, h.src.elim id (fun h1 => (by cases h1.2)), h.low, h.way, fun u v x hr h0 => ?_⟩
  rcases h.done u v x hr h0 with h1 | ⟨_, c, h1, _⟩ | h1
  · exact h1
  · cases h1
  · exact h1.elim
end
end Go.Proofs.YtgdggkhdollieaaDoor
