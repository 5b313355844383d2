/-
  Plain laws on distances: least numbers of edges by a queue and by levels; what is reached from the least.
-/
import Derived.Test.YtgdggkhdollieaaDoorTri
namespace Go.Proofs.YtgdggkhdollieaaDoor
open Go.RowKit
set_option linter.unusedVariables false

/-- There is a way from s to a vertex, of so many edges and so great a cost. -/
def Way (R : Nat → Nat → Nat → Prop) (s : Nat) : Nat → Nat → Nat → Prop
  | 0, v, c => v = s ∧ c = 0
  | k + 1, v, c => ∃ u c' x, Way R s k u c' ∧ R u v x ∧ c = c' + x
def RIn (R : Nat → Nat → Nat → Prop) (n : Nat) : Prop := ∀ u v x, R u v x → u < n ∧ v < n
/-- D has the least costs of ways from s; -1 where there is none. -/
structure IsDist (R : Nat → Nat → Nat → Prop) (n s : Nat) (D : List Int) : Prop where
  len : D.length = n
  lt : s < n
  src : D.getD s 0 = 0
  low : ∀ v, v < n → -1 ≤ D.getD v 0
  way : ∀ v, v < n → 0 ≤ D.getD v 0 → ∃ k, Way R s k v (D.getD v 0).toNat
  edge : ∀ u v x, R u v x → 0 ≤ D.getD u 0 → 0 ≤ D.getD v 0 ∧ D.getD v 0 ≤ D.getD u 0 + (x : Int)
theorem IsDist.le {R : Nat → Nat → Nat → Prop} {n s : Nat} {D : List Int} (h : IsDist R n s D) : ∀ k v c, Way R s k v c → 0 ≤ D.getD v 0 ∧ D.getD v 0 ≤ (c : Int)
  | 0, v, c, ⟨hv, hc⟩ => by subst hv; subst hc; rw [h.src]; exact ⟨Int.le_refl _, Int.le_refl _⟩
  | k + 1, v, c, ⟨u, c', x, hw, hr, hc⟩ => by
    have h1 := h.le k u c' hw
    have h2 := h.edge u v x hr h1.1
    omega
theorem IsDist.unique {R : Nat → Nat → Nat → Prop} {n s : Nat} {D D' : List Int} (h : IsDist R n s D) (h' : IsDist R n s D') : D = D' := by
  refine List.ext_getElem (by rw [h.len, h'.len]) fun i h1 h2 => ?_
  have hi : i < n := by rw [← h.len]; exact h1
  have e1 : D.getD i 0 = D[i] := by simp [h1]
  have e2 : D'.getD i 0 = D'[i] := by simp [h2]
  rw [← e1, ← e2]
  have l1 := h.low i hi
  have l2 := h'.low i hi
  by_cases p1 : 0 ≤ D.getD i 0
  · obtain ⟨k, hk⟩ := h.way i hi p1
    have q1 := h'.le k i _ hk
    obtain ⟨k', hk'⟩ := h'.way i hi q1.1
    have q2 := h.le k' i _ hk'
    omega
  · by_cases p2 : 0 ≤ D'.getD i 0
    · obtain ⟨k', hk'⟩ := h'.way i hi p2
      have q2 := h.le k' i _ hk'
      omega
    · omega
theorem Way.congr {R R' : Nat → Nat → Nat → Prop} (h : ∀ u v x, R u v x ↔ R' u v x) {s : Nat} : ∀ k v c, Way R s k v c → Way R' s k v c
  | 0, v, c, h0 => h0
  | k + 1, v, c, ⟨u, c', x, hw, hr, hc⟩ => ⟨u, c', x, Way.congr h k u c' hw, (h u v x).1 hr, hc⟩
theorem IsDist.congr {R R' : Nat → Nat → Nat → Prop} (hR : ∀ u v x, R u v x ↔ R' u v x) {n s : Nat} {D : List Int} (h : IsDist R n s D) : IsDist R' n s D :=
  ⟨h.len, h.lt, h.src, h.low, fun v hv h0 => (h.way v hv h0).imp fun k hk => Way.congr hR k _ _ hk, fun u v x hr h0 => h.edge u v x ((hR u v x).2 hr) h0⟩
theorem getD_set_eq {D : List Int} {b : Nat} (x : Int) (h : b < D.length) : (D.set b x).getD b 0 = x := by simp [h]
theorem getD_set_ne' {D : List Int} {b v : Nat} (x : Int) (h : v ≠ b) : (D.set b x).getD v 0 = D.getD v 0 := by
  have : ¬ b = v := fun e => h e.symm
  simp [this]
theorem getD_set_or (D : List Int) (b v : Nat) (x : Int) : (D.set b x).getD v 0 = x ∧ v = b ∨ (D.set b x).getD v 0 = D.getD v 0 := by
  by_cases h : v = b
  · subst h
    by_cases hl : v < D.length
    · left; simp [hl]
    · right; simp [List.set_eq_of_length_le (Nat.le_of_not_lt hl)]
  · right; exact getD_set_ne' x h

/-! Going through a queue. -/
def hopR (f : Nat → Nat → Bool) (u v x : Nat) : Prop := f u v = true ∧ x = 1
def unset (D : List Int) : Nat := D.countP fun x => decide (x = -1)
structure Bfs (f : Nat → Nat → Bool) (n s : Nat) (D : List Int) (Q : List Nat) (pend : Nat → Nat → Prop) : Prop where
  len : D.length = n
  lt : s < n
  src : D.getD s 0 = 0
  low : ∀ v, v < n → -1 ≤ D.getD v 0
  way : ∀ v, v < n → 0 ≤ D.getD v 0 → ∃ k, Way (hopR f) s k v (D.getD v 0).toNat
  inq : ∀ q ∈ Q, q < n ∧ 0 ≤ D.getD q 0
  ord : Q.Pairwise fun a b => D.getD a 0 ≤ D.getD b 0
  top : ∀ q ∈ Q, ∀ v, v < n → D.getD v 0 ≤ D.getD q 0 + 1
  done : ∀ u v, f u v = true → 0 ≤ D.getD u 0 → u ∈ Q ∨ pend u v ∨ (0 ≤ D.getD v 0 ∧ D.getD v 0 ≤ D.getD u 0 + 1)
  cnt : Q.length + unset D ≤ n
  bnd : ∀ v, v < n → D.getD v 0 + (unset D : Int) ≤ (n : Int)
structure Scan (n : Nat) (D : List Int) (Q : List Nat) (u : Nat) : Prop where
  lt : u < n
  pos : 0 ≤ D.getD u 0
  ord : ∀ q ∈ Q, D.getD u 0 ≤ D.getD q 0
  top : ∀ v, v < n → D.getD v 0 ≤ D.getD u 0 + 1
section
variable {f : Nat → Nat → Bool} {n s : Nat} {D : List Int} {Q : List Nat}
theorem unset_set {b : Nat} {x : Int} (hb : b < D.length) (h : D.getD b 0 = -1) (hx : x ≠ -1) : unset (D.set b x) + 1 = unset D := by
  unfold unset
  rw [List.countP_set hb]
  have e : D[b] = -1 := by rw [← h]; simp [hb]
  have hp : 0 < D.countP fun x => decide (x = -1) := List.countP_pos_iff.2 ⟨D[b], List.getElem_mem hb, by simp [e]⟩
  simp [e, hx]; omega
theorem Bfs.start (hs : s < n) (hfn : ∀ u v, f u v = true → u < n) : Bfs f n s ((List.replicate n (-1)).set s 0) [s] fun _ _ => False := by
  have hl : s < (List.replicate n (-1 : Int)).length := by simpa using hs
  have h0 : ((List.replicate n (-1 : Int)).set s 0).getD s 0 = 0 := getD_set_eq 0 hl
  have hv : ∀ v, v < n → ((List.replicate n (-1 : Int)).set s 0).getD v 0 = if v = s then 0 else -1 := fun v hv => by
    split
    · rename_i e; subst e; exact h0
    · rename_i e; rw [getD_set_ne' 0 e]; simp [hv]
  have hu := unset_set (D := List.replicate n (-1)) (x := 0) hl (by simp [hs]) (by decide)
  have hu0 : unset (List.replicate n (-1)) = n := by simp [unset, List.countP_replicate]
  refine ⟨by simp, hs, h0, fun v h => ?_, fun v h h1 => ?_, fun q hq => ?_, by simp, fun q hq v h => ?_, fun u v hf1 h1 => ?_, by simp; omega, fun v h => ?_⟩
  · rw [hv v h]; split <;> omega
  · rw [hv v h] at h1 ⊢
    split at h1
    · rename_i e; subst e; exact ⟨0, rfl, by simp⟩
    · omega
  · simp at hq; subst hq; exact ⟨hs, by rw [h0]; exact Int.le_refl _⟩
  · simp at hq; subst hq; rw [h0, hv v h]; split <;> omega
  · rw [hv u (hfn u v hf1)] at h1
    split at h1
    · rename_i e; left; simp [e]
    · omega
  · rw [hv v h]; split <;> omega
theorem Bfs.pop {u : Nat} (h : Bfs f n s D (u :: Q) fun _ _ => False) (L : List Nat) (hL : ∀ b, f u b = true → b ∈ L) : Bfs f n s D Q (fun a b => a = u ∧ b ∈ L.drop 0) ∧ Scan n D Q u := by
  have ho := h.ord
  rw [List.pairwise_cons] at ho
  have hq := h.inq u (by simp)
  refine ⟨⟨h.len, h.lt, h.src, h.low, h.way, fun q hq => h.inq q (by simp [hq]), ho.2, fun q hq => h.top q (by simp [hq]), fun a b hf h0 => ?_, ?_, h.bnd⟩, hq.1, hq.2, ho.1, h.top u (by simp)⟩
  · rcases h.done a b hf h0 with h1 | h1 | h1
    · rw [List.mem_cons] at h1
      rcases h1 with rfl | h1
      · exact .inr (.inl ⟨rfl, hL b hf⟩)
      · exact .inl h1
    · exact h1.elim
    · exact .inr (.inr h1)
  · have := h.cnt; simp at this; omega
theorem drop_mem {L : List Nat} {j b : Nat} (hj : j < L.length) (h : b ∈ L.drop j) : b = L.getD j 0 ∨ b ∈ L.drop (j + 1) := by
  rw [List.drop_eq_getElem_cons hj, List.mem_cons] at h
  rcases h with h | h
  · left; rw [h]; simp [hj]
  · exact .inr h
theorem Bfs.skip {u j : Nat} {L : List Nat} (h : Bfs f n s D Q fun a b => a = u ∧ b ∈ L.drop j) (hs : Scan n D Q u) (hj : j < L.length) (hb : L.getD j 0 < n) (hne : D.getD (L.getD j 0) 0 ≠ -1) : Bfs f n s D Q fun a b => a = u ∧ b ∈ L.drop (j + 1) := by
  refine ⟨h.len, h.lt, h.src, h.low, h.way, h.inq, h.ord, h.top, fun a b hf h0 => ?_, h.cnt, h.bnd⟩
  rcases h.done a b hf h0 with h1 | ⟨rfl, h1⟩ | h1
  · exact .inl h1
  · rcases drop_mem hj h1 with rfl | h1
    · have := h.low _ hb
      exact .inr (.inr ⟨by omega, hs.top _ hb⟩)
    · exact .inr (.inl ⟨rfl, h1⟩)
  · exact .inr (.inr h1)
theorem Bfs.push {u j b : Nat} {L : List Nat} (h : Bfs f n s D Q fun a b => a = u ∧ b ∈ L.drop j) (hs : Scan n D Q u) (hj : j < L.length) (hbe : L.getD j 0 = b) (hb : b < n) (hf : f u b = true) (he : D.getD b 0 = -1) :
    Bfs f n s (D.set b (D.getD u 0 + 1)) (Q ++ [b]) (fun a b => a = u ∧ b ∈ L.drop (j + 1)) ∧ Scan n (D.set b (D.getD u 0 + 1)) (Q ++ [b]) u ∧ unset (D.set b (D.getD u 0 + 1)) + 1 = unset D := by
  have hp := hs.pos
  have hlb : b < D.length := by rw [h.len]; exact hb
  have hub : u ≠ b := fun e => by subst e; omega
  have hbb : (D.set b (D.getD u 0 + 1)).getD b 0 = D.getD u 0 + 1 := getD_set_eq _ hlb
  have hv : ∀ v, v ≠ b → (D.set b (D.getD u 0 + 1)).getD v 0 = D.getD v 0 := fun v hv => getD_set_ne' _ hv
  have hqb : ∀ q ∈ Q, q ≠ b := fun q hq e => by subst e; have := (h.inq q hq).2; omega
  have hu := unset_set (x := D.getD u 0 + 1) hlb he (by omega)
  have hvt : ∀ v, v < n → (D.set b (D.getD u 0 + 1)).getD v 0 ≤ D.getD u 0 + 1 := fun v hvn => by
    by_cases e : v = b
    · subst e; rw [hbb]; exact Int.le_refl _
    · rw [hv v e]; exact hs.top v hvn
  generalize hD' : D.set b (D.getD u 0 + 1) = D' at *
  have hmem : ∀ q, q ∈ Q ++ [b] → q ∈ Q ∨ q = b := fun q hq => by simpa using hq
  refine ⟨⟨by rw [← hD']; simpa using h.len, h.lt, ?_, fun v hvn => ?_, fun v hvn h0 => ?_, fun q hq => ?_, ?_, fun q hq v hvn => ?_, fun a c hfc h0 => ?_, ?_, fun v hvn => ?_⟩, ⟨hs.lt, ?_, fun q hq => ?_, fun v hvn => ?_⟩, hu⟩
  · rw [hv s (fun e => by subst e; have := h.src; omega)]; exact h.src
  · by_cases e : v = b
    · subst e; rw [hbb]; omega
    · rw [hv v e]; exact h.low v hvn
  · by_cases e : v = b
    · subst e
      obtain ⟨k, hk⟩ := h.way u hs.lt hp
      exact ⟨k + 1, u, _, 1, hk, ⟨hf, rfl⟩, by rw [hbb]; omega⟩
    · rw [hv v e] at h0 ⊢; exact h.way v hvn h0
  · rcases hmem q hq with hq | rfl
    · rw [hv q (hqb q hq)]; exact h.inq q hq
    · rw [hbb]; exact ⟨hb, by omega⟩
  · rw [List.pairwise_append]
    refine ⟨?_, by simp, fun a ha c hc => ?_⟩
    · exact h.ord.imp_of_mem fun {a c} ha hc hac => by rw [hv a (hqb a ha), hv c (hqb c hc)]; exact hac
    · simp at hc; subst hc
      rw [hbb, hv a (hqb a ha)]
      exact hs.top a (h.inq a ha).1
  · rcases hmem q hq with hq | rfl
    · have h1 := hvt v hvn
      have h2 := hs.ord q hq
      rw [hv q (hqb q hq)]; omega
    · rw [hbb]; have := hvt v hvn; omega
  · by_cases ea : a = b
    · subst ea; left; simp
    · rw [hv a ea] at h0 ⊢
      rcases h.done a c hfc h0 with h1 | ⟨rfl, h1⟩ | h1
      · left; simp [h1]
      · rcases drop_mem hj h1 with h2 | h1
        · rw [hbe] at h2; subst h2
          rw [hbb]; exact .inr (.inr ⟨by omega, by omega⟩)
        · exact .inr (.inl ⟨rfl, h1⟩)
      · have e : c ≠ b := fun e => by subst e; omega
        rw [hv c e]; exact .inr (.inr h1)
  · have := h.cnt; simp; omega
  · by_cases e : v = b
    · subst e; rw [hbb]; have := h.bnd u hs.lt; omega
    · rw [hv v e]; have := h.bnd v hvn; omega
  · rw [hv u hub]; exact hp
  · rw [hv u hub]
    rcases hmem q hq with hq | rfl
    · rw [hv q (hqb q hq)]; exact hs.ord q hq
    · rw [hbb]; omega
  · rw [hv u hub]; exact hvt v hvn
theorem Bfs.fin {u j : Nat} {L : List Nat} (h : Bfs f n s D Q fun a b => a = u ∧ b ∈ L.drop j) (hj : L.length ≤ j) : Bfs f n s D Q fun _ _ => False := by
  refine ⟨h.len, h.lt, h.src, h.low, h.way, h.inq, h.ord, h.top, fun a b hf h0 => ?_, h.cnt, h.bnd⟩
  rcases h.done a b hf h0 with h1 | ⟨rfl, h1⟩ | h1
  · exact .inl h1
  · rw [List.drop_of_length_le hj] at h1; cases h1
  · exact .inr (.inr h1)
theorem Bfs.dist (h : Bfs f n s D [] fun _ _ => False) : IsDist (hopR f) n s D := by
  refine ⟨h.len, h.lt, h.src, h.low, h.way, fun u v x hr h0 => ?_⟩
  obtain ⟨hf, rfl⟩ := hr
  rcases h.done u v hf h0 with h1 | h1 | h1
  · cases h1
  · exact h1.elim
  · exact h1
end
/-! The reference's way: edge by edge, level by level. -/
def hopEdge (t : Nat) (D : List Int) (e : Tri) : List Int := if D.getD e.1.toNat 0 = (t : Int) ∧ D.getD e.2.1.toNat 0 < 0 then D.set e.2.1.toNat ((t : Int) + 1) else D
def hopsTo (ys : List Tri) (D : List Int) : Nat → List Int
  | 0 => D
  | t + 1 => ys.foldl (hopEdge t) (hopsTo ys D t)
/-- What holds behind t levels, and so many edges of the next one. -/
structure Lev (f : Nat → Nat → Bool) (n s t : Nat) (done : Nat → Nat → Prop) (D : List Int) : Prop where
  len : D.length = n
  lt : s < n
  src : D.getD s 0 = 0
  low : ∀ v, v < n → -1 ≤ D.getD v 0 ∧ D.getD v 0 ≤ (t : Int) + 1
  way : ∀ v, v < n → 0 ≤ D.getD v 0 → ∃ k, Way (hopR f) s k v (D.getD v 0).toNat
  par : ∀ v, v < n → 0 < D.getD v 0 → ∃ u, u < n ∧ D.getD u 0 = D.getD v 0 - 1
  edge : ∀ u v, f u v = true → 0 ≤ D.getD u 0 → D.getD u 0 < (t : Int) ∨ D.getD u 0 = (t : Int) ∧ done u v → 0 ≤ D.getD v 0 ∧ D.getD v 0 ≤ D.getD u 0 + 1
theorem Lev.step {f : Nat → Nat → Bool} {n s t a b : Nat} {done : Nat → Nat → Prop} {D : List Int} (h : Lev f n s t done D) (ha : a < n) (hb : b < n) (hf : f a b = true) (e : Tri) (he1 : e.1 = (a : Int)) (he2 : e.2.1 = (b : Int)) :
    Lev f n s t (fun u v => done u v ∨ u = a ∧ v = b) (hopEdge t D e) := by
  unfold hopEdge
  rw [he1, he2, Int.toNat_natCast, Int.toNat_natCast]
  split
  · rename_i hc
    obtain ⟨c1, c2⟩ := hc
    have hlb : b < D.length := by rw [h.len]; exact hb
    have hbb : (D.set b ((t : Int) + 1)).getD b 0 = (t : Int) + 1 := getD_set_eq _ hlb
    have hv : ∀ v, v ≠ b → (D.set b ((t : Int) + 1)).getD v 0 = D.getD v 0 := fun v hv => getD_set_ne' _ hv
    have hlen : (D.set b ((t : Int) + 1)).length = n := by simpa using h.len
    generalize D.set b ((t : Int) + 1) = D' at *
    refine ⟨hlen, h.lt, ?_, fun v hvn => ?_, fun v hvn h0 => ?_, fun v hvn h0 => ?_, fun u v hfu h0 hd => ?_⟩
    · rw [hv s (fun e => by subst e; have := h.src; omega)]; exact h.src
    · by_cases e : v = b
      · subst e; rw [hbb]; omega
      · rw [hv v e]; exact h.low v hvn
    · by_cases e : v = b
      · subst e
        obtain ⟨k, hk⟩ := h.way a ha (by omega)
        exact ⟨k + 1, a, _, 1, hk, ⟨hf, rfl⟩, by rw [hbb]; omega⟩
      · rw [hv v e] at h0 ⊢; exact h.way v hvn h0
    · by_cases e : v = b
      · subst e
        exact ⟨a, ha, by rw [hbb, hv a (fun e => by subst e; omega)]; omega⟩
      · rw [hv v e] at h0 ⊢
        obtain ⟨u, hu, hd⟩ := h.par v hvn h0
        exact ⟨u, hu, by rw [hv u (fun e => by subst e; omega)]; exact hd⟩
    · by_cases eu : u = b
      · subst eu; rw [hbb] at hd; omega
      · rw [hv u eu] at h0 hd ⊢
        by_cases ev : v = b
        · subst ev; rw [hbb]
          rcases hd with hd | ⟨hd, -⟩
          · have := h.edge u v hfu h0 (.inl hd); omega
          · omega
        · rw [hv v ev]
          refine h.edge u v hfu h0 (hd.imp id fun hd => ⟨hd.1, hd.2.elim id fun hx => absurd hx.2 ev⟩)
  · rename_i hc
    refine ⟨h.len, h.lt, h.src, h.low, h.way, h.par, fun u v hfu h0 hd => ?_⟩
    rcases hd with hd | ⟨hd, hd2 | ⟨rfl, rfl⟩⟩
    · exact h.edge u v hfu h0 (.inl hd)
    · exact h.edge u v hfu h0 (.inr ⟨hd, hd2⟩)
    · have h1 : ¬ D.getD v 0 < 0 := fun h2 => hc ⟨hd, h2⟩
      have h2 := (h.low v hb).2
      omega
theorem Lev.weak {f : Nat → Nat → Bool} {n s t : Nat} {d d' : Nat → Nat → Prop} {D : List Int} (h : Lev f n s t d D) (hd : ∀ u v, f u v = true → d' u v → d u v) : Lev f n s t d' D :=
  ⟨h.len, h.lt, h.src, h.low, h.way, h.par, fun u v hf h0 hx => h.edge u v hf h0 (hx.imp id fun hx => ⟨hx.1, hd u v hf hx.2⟩)⟩
theorem Lev.all {f : Nat → Nat → Bool} {n s t : Nat} : ∀ (ys : List Tri) (d : Nat → Nat → Prop) (D : List Int), Lev f n s t d D →
    (∀ e ∈ ys, ∃ a b : Nat, e.1 = (a : Int) ∧ e.2.1 = (b : Int) ∧ a < n ∧ b < n ∧ f a b = true) →
    Lev f n s t (fun u v => d u v ∨ ∃ e ∈ ys, e.1 = (u : Int) ∧ e.2.1 = (v : Int)) (ys.foldl (hopEdge t) D)
  | [], d, D, h, _ => h.weak fun u v _ hx => hx.elim id fun ⟨e, he, _⟩ => by cases he
  | y :: ys, d, D, h, hy => by
    obtain ⟨a, b, h1, h2, h3, h4, h5⟩ := hy y (by simp)
    have := Lev.all ys _ _ (h.step h3 h4 h5 y h1 h2) fun e he => hy e (by simp [he])
    rw [List.foldl_cons]
    refine this.weak fun u v _ hx => ?_
    rcases hx with hx | ⟨e, he, e1, e2⟩
    · exact .inl (.inl hx)
    · rw [List.mem_cons] at he
      rcases he with rfl | he
      · exact .inl (.inr ⟨by omega, by omega⟩)
      · exact .inr ⟨e, he, e1, e2⟩
theorem Lev.next {f : Nat → Nat → Bool} {n s t : Nat} {d : Nat → Nat → Prop} {D : List Int} (h : Lev f n s t d D) (hd : ∀ u v, f u v = true → d u v) : Lev f n s (t + 1) (fun _ _ => False) D :=
  ⟨h.len, h.lt, h.src, fun v hv => by have := h.low v hv; omega, h.way, h.par, fun u v hf h0 hx => h.edge u v hf h0 (by
    rcases hx with hx | ⟨_, hx⟩
    · by_cases e : D.getD u 0 = (t : Int)
      · exact .inr ⟨e, hd u v hf⟩
      · exact .inl (by omega)
    · exact hx.elim)⟩
/-- Every number under m is in the list: it is at least as long. -/
theorem long_of_all : ∀ (m : Nat) (l : List Int), (∀ i : Nat, i < m → (i : Int) ∈ l) → m ≤ l.length
  | 0, _, _ => Nat.zero_le _
  | m + 1, l, h => by
    have h1 := h m (by omega)
    have h2 := long_of_all m (l.erase (m : Int)) fun i hi => (List.mem_erase_of_ne (by omega)).2 (h i (by omega))
    have h3 : 0 < l.length := List.length_pos_of_mem h1
    rw [List.length_erase_of_mem h1] at h2
    omega
theorem Lev.chain {f : Nat → Nat → Bool} {n s t : Nat} {d : Nat → Nat → Prop} {D : List Int} (h : Lev f n s t d D) : ∀ (k v : Nat), v < n → D.getD v 0 = (k : Int) → ∀ i, i ≤ k → (i : Int) ∈ D
  | 0, v, hv, he, i, hi => by
    have : i = 0 := by omega
    subst this
    rw [← he]
    have : v < D.length := by rw [h.len]; exact hv
    simp [this]
  | k + 1, v, hv, he, i, hi => by
    by_cases e : i = k + 1
    · subst e
      rw [← he]
      have : v < D.length := by rw [h.len]; exact hv
      simp [this]
    · obtain ⟨u, hu, hd⟩ := h.par v hv (by omega)
      exact h.chain k u hu (by omega) i (by omega)
theorem Lev.start {f : Nat → Nat → Bool} {n s : Nat} (hs : s < n) : Lev f n s 0 (fun _ _ => False) ((List.replicate n (-1)).set s 0) := by
  have hl : s < (List.replicate n (-1 : Int)).length := by simpa using hs
  have h0 : ((List.replicate n (-1 : Int)).set s 0).getD s 0 = 0 := getD_set_eq 0 hl
  have hv : ∀ v, v < n → ((List.replicate n (-1 : Int)).set s 0).getD v 0 = if v = s then 0 else -1 := fun v hv => by
    split
    · rename_i e; subst e; exact h0
    · rename_i e; rw [getD_set_ne' 0 e]; simp [hv]
  refine ⟨by simp, hs, h0, fun v h => ?_, fun v h h1 => ?_, fun v h h1 => ?_, fun u v _ h1 h2 => ?_⟩
  · rw [hv v h]; split <;> omega
  · rw [hv v h] at h1 ⊢
    split at h1
    · rename_i e; subst e; exact ⟨0, rfl, by simp⟩
    · omega
  · rw [hv v h] at h1; split at h1 <;> omega
  · rcases h2 with h2 | h2
    · omega
    · exact h2.2.elim
theorem Lev.to {f : Nat → Nat → Bool} {n s : Nat} {ys : List Tri} (hs : s < n) (hy : ∀ e ∈ ys, ∃ a b : Nat, e.1 = (a : Int) ∧ e.2.1 = (b : Int) ∧ a < n ∧ b < n ∧ f a b = true) (hf : ∀ u v, f u v = true → ∃ e ∈ ys, e.1 = (u : Int) ∧ e.2.1 = (v : Int)) :
    ∀ t, Lev f n s t (fun _ _ => False) (hopsTo ys ((List.replicate n (-1)).set s 0) t)
  | 0 => Lev.start hs
  | t + 1 => ((Lev.to hs hy hf t).all ys _ _ hy).next fun u v h => .inr (hf u v h)
theorem hops_dist {f : Nat → Nat → Bool} {n s : Nat} {ys : List Tri} (hs : s < n) (hy : ∀ e ∈ ys, ∃ a b : Nat, e.1 = (a : Int) ∧ e.2.1 = (b : Int) ∧ a < n ∧ b < n ∧ f a b = true) (hf : ∀ u v, f u v = true → ∃ e ∈ ys, e.1 = (u : Int) ∧ e.2.1 = (v : Int)) :
    IsDist (hopR f) n s (hopsTo ys ((List.replicate n (-1)).set s 0) n) := by
  have h := Lev.to hs hy hf n
  refine ⟨h.len, h.lt, h.src, fun v hv => (h.low v hv).1, h.way, fun u v x hr h0 => ?_⟩
  obtain ⟨hfu, rfl⟩ := hr
  obtain ⟨e, he, e1, e2⟩ := hf u v hfu
  obtain ⟨a, b, h1, h2, h3, h4, -⟩ := hy e he
  have hun : u < n := by omega
  refine h.edge u v hfu h0 (.inl ?_)
  obtain ⟨k, hk⟩ := Int.eq_ofNat_of_zero_le h0
  have := long_of_all (k + 1) _ fun i hi => h.chain k u hun hk i (by omega)
  rw [h.len] at this
  omega
theorem hopsTo_length (ys : List Tri) (D : List Int) : ∀ t, (hopsTo ys D t).length = D.length
  | 0 => rfl
  | t + 1 => by
    rw [hopsTo, ← hopsTo_length ys D t]
    generalize hopsTo ys D t = E
    induction ys generalizing E with
    | nil => rfl
    | cons y ys ih => rw [List.foldl_cons, ih]; unfold hopEdge; split <;> simp
/-! The least that can be reached. -/
/-- A way of any length. -/
def Con (f : Nat → Nat → Bool) (v u : Nat) : Prop := ∃ k c, Way (hopR f) v k u c
structure IsLeast (f : Nat → Nat → Bool) (n : Nat) (L : List Int) : Prop where
  len : L.length = n
  low : ∀ v, v < n → 0 ≤ L.getD v 0 ∧ L.getD v 0 ≤ (v : Int)
  con : ∀ v, v < n → Con f v (L.getD v 0).toNat
  edge : ∀ u v, f u v = true → L.getD u 0 = L.getD v 0
theorem IsLeast.same {f : Nat → Nat → Bool} {n : Nat} {L : List Int} (h : IsLeast f n L) : ∀ k v u c, Way (hopR f) v k u c → L.getD u 0 = L.getD v 0
  | 0, v, u, c, ⟨hu, _⟩ => by subst hu; rfl
  | k + 1, v, u, c, ⟨x, c', _, hw, ⟨hr, _⟩, _⟩ => by rw [← h.edge x u hr]; exact h.same k v x c' hw
theorem IsLeast.own {f : Nat → Nat → Bool} {n : Nat} {L : List Int} (h : IsLeast f n L) (v : Nat) (hv : v < n) : L.getD (L.getD v 0).toNat 0 = L.getD v 0 := by
  obtain ⟨k, c, hw⟩ := h.con v hv
  exact h.same k v _ c hw
theorem IsLeast.le {f : Nat → Nat → Bool} {n : Nat} {L L' : List Int} (h : IsLeast f n L) (h' : IsLeast f n L') (v : Nat) (hv : v < n) : L.getD v 0 ≤ L'.getD v 0 := by
  obtain ⟨k, c, hw⟩ := h'.con v hv
  have h1 := h.same k v _ c hw
  have h2 := h'.low v hv
  have h3 := (h.low (L'.getD v 0).toNat (by omega)).2
  omega
theorem IsLeast.unique {f : Nat → Nat → Bool} {n : Nat} {L L' : List Int} (h : IsLeast f n L) (h' : IsLeast f n L') : L = L' := by
  refine List.ext_getElem (by rw [h.len, h'.len]) fun i h1 h2 => ?_
  have hi : i < n := by rw [← h.len]; exact h1
  have e1 : L.getD i 0 = L[i] := by simp [h1]
  have e2 : L'.getD i 0 = L'[i] := by simp [h2]
  rw [← e1, ← e2]
  have := h.le h' i hi
  have := h'.le h i hi
  omega
theorem Con.refl (f : Nat → Nat → Bool) (v : Nat) : Con f v v := ⟨0, 0, rfl, rfl⟩
theorem Con.snoc {f : Nat → Nat → Bool} {a b c : Nat} (h : Con f a b) (hf : f b c = true) : Con f a c := by
  obtain ⟨k, x, hw⟩ := h
  exact ⟨k + 1, x + 1, b, x, 1, hw, ⟨hf, rfl⟩, rfl⟩
theorem Con.trans {f : Nat → Nat → Bool} {a b : Nat} (h : Con f a b) : ∀ {c : Nat}, Con f b c → Con f a c := by
  have key : ∀ k c x, Way (hopR f) b k c x → Con f a c := by
    intro k
    induction k with
    | zero => rintro c x ⟨rfl, _⟩; exact h
    | succ k ih => rintro c x ⟨u, c', _, hw, ⟨hr, _⟩, _⟩; exact (ih u c' hw).snoc hr
  intro c ⟨k, x, hw⟩
  exact key k _ x hw
theorem Con.symm {f : Nat → Nat → Bool} (hf : ∀ u v, f u v = f v u) {a b : Nat} (h : Con f a b) : Con f b a := by
  have key : ∀ k b x, Way (hopR f) a k b x → Con f b a := by
    intro k
    induction k with
    | zero => rintro b x ⟨rfl, _⟩; exact Con.refl f _
    | succ k ih =>
      rintro b x ⟨u, c', _, hw, ⟨hr, _⟩, _⟩
      exact Con.trans ((Con.refl f b).snoc (by rw [hf]; exact hr)) (ih u c' hw)
  obtain ⟨k, x, hw⟩ := h
  exact key k b x hw
theorem IsDist.con_iff {f : Nat → Nat → Bool} {n s : Nat} {D : List Int} (h : IsDist (hopR f) n s D) (v : Nat) (hv : v < n) : 0 ≤ D.getD v 0 ↔ Con f s v :=
  ⟨fun h0 => by obtain ⟨k, hk⟩ := h.way v hv h0; exact ⟨k, _, hk⟩, fun ⟨k, c, hw⟩ => (h.le k v c hw).1⟩

/-! The program's way: vertex by vertex, all that is reached. -/
structure LeastTo (f : Nat → Nat → Bool) (n t : Nat) (L : List Int) : Prop where
  len : L.length = n
  old : ∀ v, v < n → L.getD v 0 = -1 ∧ (∀ u, u < t → ¬ Con f v u) ∨ ∃ u : Nat, u < t ∧ L.getD v 0 = (u : Int) ∧ Con f v u ∧ (∀ u', u' < u → ¬ Con f v u')
theorem LeastTo.start {f : Nat → Nat → Bool} {n : Nat} : LeastTo f n 0 (List.replicate n (-1)) := ⟨by simp, fun v hv => .inl ⟨by simp [hv], fun u hu => by omega⟩⟩
theorem LeastTo.skip {f : Nat → Nat → Bool} {n t : Nat} {L : List Int} (hs : ∀ u v, f u v = f v u) (h : LeastTo f n t L) (ht : t < n) (hne : L.getD t 0 ≠ -1) : LeastTo f n (t + 1) L := by
  refine ⟨h.len, fun v hv => ?_⟩
  rcases h.old v hv with ⟨h1, h2⟩ | ⟨u, h1, h2⟩
  · refine .inl ⟨h1, fun u hu hc => ?_⟩
    by_cases e : u = t
    · subst e
      rcases h.old u ht with ⟨h3, -⟩ | ⟨u', h4, -, h5, -⟩
      · exact hne h3
      · exact h2 u' h4 (hc.trans h5)
    · exact h2 u (by omega) hc
  · exact .inr ⟨u, by omega, h2⟩
/-- In the midst of what is reached from t: j vertices are looked at. -/
structure LeastIn (f : Nat → Nat → Bool) (n t j : Nat) (L : List Int) : Prop where
  len : L.length = n
  new : ∀ v, v < n → v < j → L.getD v 0 = -1 ∧ (∀ u, u < t + 1 → ¬ Con f v u) ∨ ∃ u : Nat, u < t + 1 ∧ L.getD v 0 = (u : Int) ∧ Con f v u ∧ (∀ u', u' < u → ¬ Con f v u')
  old : ∀ v, v < n → j ≤ v → L.getD v 0 = -1 ∧ (∀ u, u < t → ¬ Con f v u) ∨ ∃ u : Nat, u < t ∧ L.getD v 0 = (u : Int) ∧ Con f v u ∧ (∀ u', u' < u → ¬ Con f v u')
theorem LeastTo.open {f : Nat → Nat → Bool} {n t : Nat} {L : List Int} (h : LeastTo f n t L) : LeastIn f n t 0 L := ⟨h.len, fun v _ h1 => by omega, fun v hv _ => h.old v hv⟩
theorem LeastIn.close {f : Nat → Nat → Bool} {n t j : Nat} {L : List Int} (h : LeastIn f n t j L) (hj : n ≤ j) : LeastTo f n (t + 1) L := ⟨h.len, fun v hv => h.new v hv (by omega)⟩
theorem LeastIn.step {f : Nat → Nat → Bool} {n t j : Nat} {L D : List Int} (hs : ∀ u v, f u v = f v u) (h : LeastIn f n t j L) (hj : j < n) (hd : IsDist (hopR f) n t D) (hnew : ∀ u, u < t → ¬ Con f t u) :
    LeastIn f n t (j + 1) (if D.getD j 0 = -1 then L else L.set j (t : Int)) := by
  have hci := hd.con_iff j hj
  have hlow := hd.low j hj
  have hlj : j < L.length := by rw [h.len]; exact hj
  split
  · rename_i he
    have hnc : ¬ Con f j t := fun hc => by have := hci.2 (hc.symm hs); omega
    refine ⟨h.len, fun v hv hvj => ?_, fun v hv hvj => h.old v hv (by omega)⟩
    by_cases e : v = j
    · subst e
      rcases h.old v hv (Nat.le_refl _) with ⟨h1, h2⟩ | ⟨u, h1, h2⟩
      · refine .inl ⟨h1, fun u hu => ?_⟩
        by_cases eu : u = t
        · subst eu; exact hnc
        · exact h2 u (by omega)
      · exact .inr ⟨u, by omega, h2⟩
    · exact h.new v hv (by omega)
  · rename_i he
    have hc : Con f j t := (hci.1 (by omega)).symm hs
    have hno : ∀ u, u < t → ¬ Con f j u := fun u hu hcu => hnew u hu ((hc.symm hs).trans hcu)
    refine ⟨by simpa using h.len, fun v hv hvj => ?_, fun v hv hvj => ?_⟩
    · by_cases e : v = j
      · subst e
        rw [getD_set_eq _ hlj]
        exact .inr ⟨t, by omega, rfl, hc, hno⟩
      · rw [getD_set_ne' _ e]; exact h.new v hv (by omega)
    · rw [getD_set_ne' _ (by omega)]; exact h.old v hv (by omega)
theorem LeastTo.new {f : Nat → Nat → Bool} {n t : Nat} {L : List Int} (h : LeastTo f n t L) (ht : t < n) (he : L.getD t 0 = -1) : ∀ u, u < t → ¬ Con f t u := by
  rcases h.old t ht with ⟨_, h2⟩ | ⟨u, h1, h2, -⟩
  · exact h2
  · omega
theorem LeastTo.least {f : Nat → Nat → Bool} {n : Nat} {L : List Int} (hs : ∀ u v, f u v = f v u) (hf : ∀ u v, f u v = true → u < n ∧ v < n) (h : LeastTo f n n L) : IsLeast f n L := by
  have key : ∀ v, v < n → ∃ u : Nat, L.getD v 0 = (u : Int) ∧ Con f v u ∧ (∀ u', u' < u → ¬ Con f v u') := fun v hv => by
    rcases h.old v hv with ⟨_, h2⟩ | ⟨u, _, h2, h3, h4⟩
    · exact absurd (Con.refl f v) (h2 v hv)
    · exact ⟨u, h2, h3, h4⟩
  refine ⟨h.len, fun v hv => ?_, fun v hv => ?_, fun a b hab => ?_⟩
  · obtain ⟨u, h1, h2, h3⟩ := key v hv
    have : ¬ v < u := fun hh => h3 v hh (Con.refl f v)
    omega
  · obtain ⟨u, h1, h2, h3⟩ := key v hv
    rw [h1]; simpa using h2
  · obtain ⟨ha, hb⟩ := hf a b hab
    obtain ⟨u, h1, h2, h3⟩ := key a ha
    obtain ⟨u', h1', h2', h3'⟩ := key b hb
    have c1 : Con f a b := (Con.refl f a).snoc hab
    have n1 : ¬ u' < u := fun hh => h3 u' hh (c1.trans h2')
    have n2 : ¬ u < u' := fun hh => h3' u hh ((c1.symm hs).trans h2)
    omega

/-! The reference's way: labels that go over edges until nothing changes. -/
structure LeastSo (f : Nat → Nat → Bool) (n : Nat) (L : List Int) : Prop where
  len : L.length = n
  low : ∀ v, v < n → 0 ≤ L.getD v 0 ∧ L.getD v 0 ≤ (v : Int)
  con : ∀ v, v < n → Con f v (L.getD v 0).toNat
theorem LeastSo.start {f : Nat → Nat → Bool} {n : Nat} : LeastSo f n ((List.range n).map fun (v : Nat) => (v : Int)) := by
  have hv : ∀ v, v < n → ((List.range n).map fun (v : Nat) => (v : Int)).getD v 0 = (v : Int) := fun v hv => by simp [hv]
  exact ⟨by simp, fun v h => by rw [hv v h]; omega, fun v h => by rw [hv v h, Int.toNat_natCast]; exact Con.refl f v⟩
def least2 (a b : Nat) (L : List Int) : Int := if L.getD b 0 < L.getD a 0 then L.getD b 0 else L.getD a 0
theorem LeastSo.step {f : Nat → Nat → Bool} {n a b : Nat} {L : List Int} (hs : ∀ u v, f u v = f v u) (h : LeastSo f n L) (ha : a < n) (hb : b < n) (hf : f a b = true) : LeastSo f n ((L.set a (least2 a b L)).set b (least2 a b L)) := by
  have cab : Con f a b := (Con.refl f a).snoc hf
  have la := h.low a ha; have lb := h.low b hb
  have ca : 0 ≤ least2 a b L ∧ least2 a b L ≤ (a : Int) ∧ least2 a b L ≤ (b : Int) ∧ Con f a (least2 a b L).toNat := by
    unfold least2
    split
    · exact ⟨by omega, by omega, by omega, cab.trans (h.con b hb)⟩
    · exact ⟨by omega, by omega, by omega, h.con a ha⟩
  generalize least2 a b L = m at *
  have hla : a < L.length := by rw [h.len]; exact ha
  have hlb : b < (L.set a m).length := by rw [List.length_set, h.len]; exact hb
  have hv : ∀ v, (((L.set a m).set b m).getD v 0 = m ∧ (v = a ∨ v = b)) ∨ ((L.set a m).set b m).getD v 0 = L.getD v 0 := fun v => by
    rcases getD_set_or (L.set a m) b v m with ⟨h1, h2⟩ | h1
    · exact .inl ⟨h1, .inr h2⟩
    · rcases getD_set_or L a v m with ⟨h2, h3⟩ | h2
      · exact .inl ⟨by rw [h1, h2], .inl h3⟩
      · exact .inr (by rw [h1, h2])
  refine ⟨by simpa using h.len, fun v hvn => ?_, fun v hvn => ?_⟩
  · rcases hv v with ⟨h1, rfl | rfl⟩ | h1
    · omega
    · omega
    · rw [h1]; exact h.low v hvn
  · rcases hv v with ⟨h1, rfl | rfl⟩ | h1
    · rw [h1]; exact ca.2.2.2
    · rw [h1]; exact (cab.symm hs).trans ca.2.2.2
    · rw [h1]; exact h.con v hvn
/-- The sum of all labels. -/
def total (L : List Int) : Nat := (L.map Int.toNat).sum
theorem sum_set_le {L : List Nat} {i x : Nat} (hi : i < L.length) (h : x ≤ L[i]) : (L.set i x).sum + (L[i] - x) = L.sum := by
  induction L generalizing i with
  | nil => simp at hi
  | cons y ys ih =>
    cases i with
    | zero => simp at h ⊢; omega
    | succ i => simp at hi h ⊢; have := ih hi h; omega
theorem total_set {L : List Int} {i : Nat} {x : Int} (hi : i < L.length) (h0 : 0 ≤ x) (h : x ≤ L.getD i 0) : total (L.set i x) ≤ total L ∧ (x ≠ L.getD i 0 → total (L.set i x) < total L) := by
  have hl : i < (L.map Int.toNat).length := by simpa using hi
  have e : L.getD i 0 = L[i] := by simp [hi]
  have e2 : (L.map Int.toNat)[i] = L[i].toNat := by simp
  rw [e] at h ⊢
  have h1 := sum_set_le (L := L.map Int.toNat) (x := x.toNat) hl (by rw [e2]; omega)
  rw [e2, ← List.map_set] at h1
  unfold total
  constructor
  · omega
  · intro hne; omega
end Go.Proofs.YtgdggkhdollieaaDoor
