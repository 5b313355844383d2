/-
  Cores: plain laws on the data that both functions return, and on the program's way to them.
-/
import Derived.Test.YtobhekkgbccoiaaDoorCores
import Derived.Test.YtobhekkgbccoiaaDoorLeast
namespace Go.Proofs.YtobhekkgbccoiaaDoor
open Go.RowKit
set_option linter.unusedVariables false

theorem cntN_congr {f : Nat → Nat → Bool} {S S' : Nat → Bool} {n : Nat} (h : ∀ w, w < n → S w = S' w) (u : Nat) : cntN f S n u = cntN f S' n u :=
  sumN_congr fun w hw => by rw [h w hw]
def coreB (f : Nat → Nat → Bool) (n k v : Nat) : Bool := (List.range (2 ^ n)).any fun m => m.testBit v && (List.range n).all fun u => !m.testBit u || decide (k ≤ cntN f m.testBit n u)
theorem setOf_lt (f : Nat → Bool) (n : Nat) : setOf f n < 2 ^ n := Nat.lt_pow_two_of_testBit _ fun i hi => by rw [setOf_testBit]; simp; omega
theorem coreB_iff {f : Nat → Nat → Bool} {n k v : Nat} (hv : v < n) : coreB f n k v = true ↔ InCore f n k v := by
  unfold coreB
  simp only [List.any_eq_true, List.mem_range, Bool.and_eq_true, List.all_eq_true, Bool.or_eq_true, Bool.not_eq_true', decide_eq_true_eq]
  constructor
  · rintro ⟨m, -, h1, h2⟩
    refine ⟨m.testBit, fun u hu hs => ?_, h1⟩
    rcases h2 u hu with h | h
    · rw [hs] at h; cases h
    · exact h
  · rintro ⟨S, h1, h2⟩
    have ht : ∀ i, i < n → (setOf S n).testBit i = S i := fun i hi => by rw [setOf_testBit]; simp [hi]
    refine ⟨setOf S n, setOf_lt S n, by rw [ht v hv]; exact h2, fun u hu => ?_⟩
    rw [ht u hu]
    cases hs : S u
    · exact .inl rfl
    · refine .inr ?_
      rw [cntN_congr ht]; exact h1 u hu hs
def topOf (p : Nat → Bool) : Nat → Nat
  | 0 => 0
  | k + 1 => if p (k + 1) = true then k + 1 else topOf p k
theorem topOf_spec (p : Nat → Bool) (h0 : p 0 = true) : ∀ n, topOf p n ≤ n ∧ p (topOf p n) = true ∧ ∀ j, topOf p n < j → j ≤ n → p j = false
  | 0 => ⟨Nat.le_refl _, h0, fun j h1 h2 => by simp only [topOf] at h1; omega⟩
  | n + 1 => by
    have ih := topOf_spec p h0 n
    unfold topOf
    cases hp : p (n + 1)
    · rw [if_neg (by simp)]
      refine ⟨by omega, ih.2.1, fun j h1 h2 => ?_⟩
      by_cases e : j = n + 1
      · subst e; exact hp
      · exact ih.2.2 j h1 (by omega)
    · rw [if_pos rfl]
      exact ⟨Nat.le_refl _, hp, fun j h1 h2 => by omega⟩
def coresOf (g : GraphD) : List Int := if graphOk g = true then (List.range g.1.toNat).map fun v => ((topOf (fun k => coreB (nearP g.2) g.1.toNat k v) g.1.toNat : Nat) : Int) else []
theorem coresOf_length (g : GraphD) : (coresOf g).length ≤ 16 := by
  unfold coresOf
  split
  · rename_i h
    have := (graphOk_yes h).1
    simp; omega
  · simp
theorem coresOf_no {g : GraphD} (h : graphOk g = false) : coresOf g = [] := by unfold coresOf; rw [h]; rfl
theorem coresOf_is {g : GraphD} (h : graphOk g = true) : IsCores (nearP g.2) g.1.toNat (coresOf g) := by
  refine ⟨by unfold coresOf; rw [if_pos h]; simp, fun v hv => ?_⟩
  have e : (coresOf g).getD v 0 = ((topOf (fun k => coreB (nearP g.2) g.1.toNat k v) g.1.toNat : Nat) : Int) := by unfold coresOf; rw [if_pos h]; simp [hv]
  obtain ⟨h1, h2, h3⟩ := topOf_spec (fun k => coreB (nearP g.2) g.1.toNat k v) ((coreB_iff hv).2 (InCore.zero v)) g.1.toNat
  rw [e]
  generalize topOf (fun k => coreB (nearP g.2) g.1.toNat k v) g.1.toNat = t at *
  rw [Int.toNat_natCast]
  refine ⟨by omega, (coreB_iff hv).1 h2, fun hc => ?_⟩
  have := hc.le hv
  have h4 := h3 (t + 1) (by omega) this
  rw [(coreB_iff hv).2 hc] at h4; cases h4

/-! The program's way: sets as bits. -/
structure CoreM (f : Nat → Nat → Bool) (n q m : Nat) (C : List Int) : Prop where
  small : m < 65536
  bits : ∀ i, m.testBit i = true → i < n
  to : CoreTo f n q C
  core : ∀ v, v < n → (m.testBit v = true ↔ InCore f n q v)
structure PeelM (f : Nat → Nat → Bool) (n k m : Nat) : Prop where
  small : m < 65536
  bits : ∀ i, m.testBit i = true → i < n
  peel : Peel f n k m.testBit
section
variable {f : Nat → Nat → Bool} {n q m k : Nat} {C : List Int}
theorem CoreM.start (hn : n ≤ 16) : CoreM f n 0 (2 ^ n - 1) (List.replicate n 0) := by
  have h : ∀ i, (2 ^ n - 1).testBit i = decide (i < n) := fun i => Nat.testBit_two_pow_sub_one n i
  have hp : 2 ^ n ≤ 2 ^ 16 := Nat.pow_le_pow_right (by decide) hn
  have hp0 : 0 < 2 ^ n := Nat.two_pow_pos n
  refine ⟨by have : (2 : Nat) ^ 16 = 65536 := by decide
             omega, fun i hi => by rw [h] at hi; simpa using hi, CoreTo.start, fun v hv => ?_⟩
  rw [h]
  exact ⟨fun _ => InCore.zero v, fun _ => by simpa using hv⟩
theorem exists_bit (h : m ≠ 0) : ∃ i, m.testBit i = true := Nat.exists_testBit_of_ne_zero h
theorem CoreM.le (h : CoreM f n q m C) (hm : m ≠ 0) : q ≤ n := by
  obtain ⟨i, hi⟩ := exists_bit hm
  have := h.bits i hi
  exact ((h.core i this).1 hi).le this
theorem CoreM.cores (h : CoreM f n q 0 C) : IsCores f n C := h.to.cores fun v hv j hj hc => by
  have := (h.core v hv).2 (hc.mono (Nat.le_of_lt hj))
  simp at this
theorem CoreM.peel (h : CoreM f n q m C) : PeelM f n (q + 1) m := ⟨h.small, h.bits, fun v hv hc => (h.core v hv).2 (hc.mono (Nat.le_succ q))⟩
structure PeelIn (f : Nat → Nat → Bool) (n k m0 j m : Nat) (c : Bool) : Prop where
  pm : PeelM f n k m
  later : ∀ i, j ≤ i → i < (bitsOf m0).length → m.testBit ((bitsOf m0).getD i 0) = true
  le : (bitsOf m).length ≤ (bitsOf m0).length ∧ (c = true → (bitsOf m).length < (bitsOf m0).length)
  same : c = false → m = m0 ∧ ∀ i, i < j → i < (bitsOf m0).length → k ≤ cntN f m0.testBit n ((bitsOf m0).getD i 0)
theorem bits_get {i : Nat} (hm : m < 65536) (hi : i < (bitsOf m).length) : m.testBit ((bitsOf m).getD i 0) = true := (bitsOf_mem (by omega) _).1 (getD_inQ hi)
theorem PeelM.open (h : PeelM f n k m) : PeelIn f n k m 0 m false := ⟨h, fun i _ hi => bits_get h.small hi, ⟨Nat.le_refl _, fun h => by cases h⟩, fun _ => ⟨rfl, fun i h1 => by omega⟩⟩
theorem bits_ne {i j : Nat} (hij : j < i) (hi : i < (bitsOf m).length) : (bitsOf m).getD i 0 ≠ (bitsOf m).getD j 0 := by
  have hp : (bitsOf m).Pairwise (· < ·) := (List.pairwise_lt_range).filter _
  have := List.pairwise_iff_getElem.1 hp j i (by omega) hi hij
  simp only [List.getD_eq_getElem?_getD, List.getElem?_eq_getElem hi, List.getElem?_eq_getElem (show j < (bitsOf m).length by omega), Option.getD_some]
  omega
theorem andNot_bit {v : Nat} (hm : m < 65536) (hv : v < 16) (i : Nat) : (natAndNot m (2 ^ v)).testBit i = (m.testBit i && !decide (v = i)) := by
  rw [natAndNot_testBit m (2 ^ v) i (by omega) (by have := two_pow_lt16 hv; omega), Nat.testBit_two_pow]
theorem andNot_less {v : Nat} (hm : m < 65536) (hv : v < 16) (hb : m.testBit v = true) : (bitsOf (natAndNot m (2 ^ v))).length < (bitsOf m).length := by
  have e : bitsOf (natAndNot m (2 ^ v)) = (bitsOf m).filter fun i => !decide (v = i) := by
    unfold bitsOf
    rw [List.filter_filter]
    refine List.filter_congr fun i _ => ?_
    rw [andNot_bit hm hv, Bool.and_comm]
  rw [e]
  exact List.length_filter_lt_length_iff_exists.2 ⟨v, (bitsOf_mem (by omega) v).2 hb, by simp⟩
theorem PeelIn.drop {m0 j : Nat} {c : Bool} (h : PeelIn f n k m0 j m c) (hn : n ≤ 16) (hj : j < (bitsOf m0).length) {v : Nat} (hv : (bitsOf m0).getD j 0 = v) (hc : cntN f m.testBit n v < k) : v < n ∧ PeelIn f n k m0 (j + 1) (natAndNot m (2 ^ v)) true := by
  have hb := h.later j (Nat.le_refl _) hj
  rw [hv] at hb
  have hvn := h.pm.bits v hb
  have hbit := andNot_bit h.pm.small (show v < 16 by omega)
  refine ⟨hvn, ⟨natAndNot_lt _ _ h.pm.small, fun i hi => ?_, h.pm.peel.drop hvn hc fun u _ hne => ?_⟩, fun i h1 h2 => ?_, ?_, fun h => by cases h⟩
  · rw [hbit, Bool.and_eq_true] at hi; exact h.pm.bits i hi.1
  · rw [hbit]; simp; intro _ e; exact absurd e.symm hne
  · rw [hbit, h.later i (by omega) h2]
    have := bits_ne (m := m0) (show j < i by omega) h2
    rw [hv] at this
    simp; exact fun e => this e.symm
  · have := andNot_less h.pm.small (show v < 16 by omega) hb
    have := h.le.1
    exact ⟨by omega, fun _ => by omega⟩
theorem PeelIn.skip {m0 j : Nat} {c : Bool} (h : PeelIn f n k m0 j m c) {v : Nat} (hv : (bitsOf m0).getD j 0 = v) (hc : k ≤ cntN f m.testBit n v) : PeelIn f n k m0 (j + 1) m c :=
  ⟨h.pm, fun i h1 h2 => h.later i (by omega) h2, h.le, fun hf => by
    obtain ⟨h1, h2⟩ := h.same hf
    refine ⟨h1, fun i hi hil => ?_⟩
    by_cases e : i = j
    · subst e; rw [hv, ← h1]; exact hc
    · exact h2 i (by omega) hil⟩
theorem PeelIn.good {m0 : Nat} {c : Bool} (h : PeelIn f n k m0 (bitsOf m0).length m c) (hf : c = false) : Good f n k m.testBit := by
  obtain ⟨h1, h2⟩ := h.same hf
  subst h1
  intro u hu hs
  have hmem := (bitsOf_mem (by have := h.pm.small; omega) u).2 hs
  obtain ⟨i, hi, e⟩ := List.getElem_of_mem hmem
  have := h2 i hi hi
  rwa [show (bitsOf m).getD i 0 = u by simp [hi, e]] at this
theorem and_count {M : List Nat} (hM : MaskOK f n M) (hn : n ≤ 16) (hb : ∀ i, m.testBit i = true → i < n) {v : Nat} (hv : v < n) : M.getD v 0 &&& m < 65536 ∧ (bitsOf (M.getD v 0 &&& m)).length = cntN f m.testBit n v := by
  have h := hM.2 v hv
  refine ⟨Nat.lt_of_le_of_lt Nat.and_le_left h.1, ?_⟩
  have e : bitsOf (M.getD v 0 &&& m) = (List.range n).filter fun i => f v i && m.testBit i := bits_range (by omega) (fun i => by rw [Nat.testBit_and, h.2 i]) fun i hi => by
    cases hh : m.testBit i
    · simp
    · have := hb i hh; omega
  rw [e, filter_tick]; rfl
theorem CoreIn.start (h : CoreTo f n q C) (L : List Nat) : CoreIn f n q (fun v => v ∈ L.take 0) C := h.open.keep (fun u _ hu => by simp at hu) fun u _ hu => hu.elim
theorem CoreIn.next {j : Nat} {L : List Nat} (h : CoreIn f n q (fun v => v ∈ L.take j) C) (hj : j < L.length) {v : Nat} (hv : L.getD j 0 = v) (hvn : v < n) (hc : InCore f n (q + 1) v) : CoreIn f n q (fun v => v ∈ L.take (j + 1)) (C.set v ((q : Int) + 1)) :=
  h.put hvn hc fun u => by rw [take_snoc L j 0 hj, hv, List.mem_append, List.mem_singleton]
theorem CoreIn.fin (h : CoreIn f n q (fun v => v ∈ (bitsOf m).take (bitsOf m).length) C) (hp : PeelM f n (q + 1) m) (hg : Good f n (q + 1) m.testBit) : CoreM f n (q + 1) m C := by
  refine ⟨hp.small, hp.bits, h.close fun u hu => ?_, fun v hv => hp.peel.core hg hv⟩
  by_cases e : m.testBit u = true
  · exact .inl (by rw [List.take_length]; exact (bitsOf_mem (by have := hp.small; omega) u).2 e)
  · exact .inr fun hc => e ((hp.peel.core hg hu).2 hc)
end

/-! The reference's way: a row of bools. -/
def bls (B : List Bool) : List Value := B.map Value.bool
theorem bls_length (B : List Bool) : (bls B).length = B.length := by simp [bls]
theorem bls_get (B : List Bool) (i : Nat) (h : i < B.length) : (bls B)[i]? = some (.bool (B.getD i false)) := by simp [bls, h]
theorem bls_set (B : List Bool) (i : Nat) (x : Bool) : (bls B).set i (.bool x) = bls (B.set i x) := by simp [bls, List.map_set]
theorem infoBool : (Tryd.prog.info? 4).map (fun i => (i.zero, i.size, i.bytes)) = some (some (.bool false), 1, 1) := by kernel_rfl
/-- What a bool's cells hold, read off the world. -/
def cellB : Option Value → Bool
  | some (.bool z) => z
  | _ => false
def rowB (w : World) (b n : Nat) : List Bool := (List.range n).map fun i => cellB (w.cell? ⟨b, i, none⟩)
theorem rowB_eq {w : World} {b n c : Nat} {e : TypeId} {D : List Bool} (h : w.ownsRow b e 1 (.slice (some ⟨b, 0, none⟩) n c) n (bls D)) (hl : D.length = n) : rowB w b n = D := by
  refine List.ext_getElem (by simp [rowB, hl]) fun i h1 h2 => ?_
  have hi : i < n := by omega
  have hc := h.cellAt i (by omega)
  rw [bls_get D i h2] at hc
  simp only [rowB, List.getElem_map, List.getElem_range]
  have e : (D.getD i false) = D[i] := by simp [h2]
  rw [hc, e]; rfl
def trues : List Bool → Nat
  | [] => 0
  | b :: B => (if b = true then 1 else 0) + trues B
theorem trues_set : ∀ (B : List Bool) (v : Nat), B.getD v false = true → trues (B.set v false) < trues B
  | [], v, h => by simp at h
  | b :: B, 0, h => by
    have : b = true := by simpa using h
    subst this; simp [trues]
  | b :: B, v + 1, h => by
    have := trues_set B v (by simpa using h)
    simp only [List.set_cons_succ, trues]; omega
/-- How many of the vertices are in. -/
def cntB (B : List Bool) (xs : List Int) : Nat := (xs.filter fun x => B.getD x.toNat false).length
theorem cntB_yes (B : List Bool) (xs : List Int) (j : Nat) (hj : j < xs.length) (h : B.getD (xs.getD j 0).toNat false = true) : cntB B (xs.take (j + 1)) = cntB B (xs.take j) + 1 := by
  unfold cntB
  rw [take_snoc xs j 0 hj, List.filter_append]; simp only [List.filter_cons, h]; simp
theorem cntB_no (B : List Bool) (xs : List Int) (j : Nat) (hj : j < xs.length) (h : B.getD (xs.getD j 0).toNat false = false) : cntB B (xs.take (j + 1)) = cntB B (xs.take j) := by
  unfold cntB
  rw [take_snoc xs j 0 hj, List.filter_append]; simp only [List.filter_cons, h]; simp
theorem near_at {g : GraphD} (hok : graphOk g = true) {v j : Nat} (hj : j < (nearOf g (v : Int)).length) : ∃ u : Nat, (nearOf g (v : Int)).getD j 0 = (u : Int) ∧ u < g.1.toNat := by
  have hm := getD_inQ (d := (0 : Int)) hj
  unfold nearOf at hm ⊢
  rw [if_pos hok] at hm ⊢
  unfold nearTo at hm ⊢
  obtain ⟨u, hu, e⟩ := List.mem_map.1 hm
  rw [List.mem_filter, List.mem_range] at hu
  exact ⟨u, e.symm, hu.1⟩
theorem cntB_near {g : GraphD} (hok : graphOk g = true) (B : List Bool) (v : Nat) : cntB B (nearOf g (v : Int)) = cntN (nearP g.2) (fun u => B.getD u false) g.1.toNat v := by
  unfold cntB nearOf
  rw [if_pos hok]
  unfold nearTo
  rw [List.filter_map, List.length_map, List.filter_filter, filter_tick]
  unfold cntN
  refine sumN_congr fun i _ => ?_
  simp only [Function.comp_apply, Int.toNat_natCast, nearQ_eq]
  rw [Bool.and_comm]
structure PeelB (f : Nat → Nat → Bool) (n k : Nat) (B : List Bool) : Prop where
  len : B.length = n
  peel : Peel f n k fun u => B.getD u false
theorem PeelB.start {f : Nat → Nat → Bool} {n k : Nat} : PeelB f n k (List.replicate n true) := ⟨by simp, fun v hv _ => by simp [hv]⟩
theorem PeelB.drop {f : Nat → Nat → Bool} {n k v : Nat} {B : List Bool} (h : PeelB f n k B) (hv : v < n) (hc : cntN f (fun u => B.getD u false) n v < k) : PeelB f n k (B.set v false) :=
  ⟨by simpa using h.len, h.peel.drop hv hc fun u _ hne => by
    simp only [List.getD_eq_getElem?_getD]
    rw [List.getElem?_set_ne fun e => hne e.symm]⟩
theorem PeelB.of_all {f : Nat → Nat → Bool} {n k : Nat} {B : List Bool} (hl : B.length = n) (h : ∀ u, u < n → B.getD u false = true) : PeelB f n k B := ⟨hl, fun v hv _ => h v hv⟩
/-- Up to v, those that are in have enough neighbours. -/
def GoodTo (f : Nat → Nat → Bool) (n k v : Nat) (B : List Bool) : Prop := ∀ u, u < v → B.getD u false = true → k ≤ cntN f (fun u => B.getD u false) n u
theorem GoodTo.next {f : Nat → Nat → Bool} {n k v : Nat} {B : List Bool} (h : GoodTo f n k v B) (hv : B.getD v false = true → k ≤ cntN f (fun u => B.getD u false) n v) : GoodTo f n k (v + 1) B := fun u hu hs => by
  by_cases e : u = v
  · subst e; exact hv hs
  · exact h u (by omega) hs
theorem CoreIn.in_ {f : Nat → Nat → Bool} {n q v : Nat} {C : List Int} {B : List Bool} (h : CoreIn f n q (fun u => u < v) C) (hv : v < n) (hp : PeelB f n (q + 1) B) (hg : GoodTo f n (q + 1) n B) (hb : B.getD v false = true) : CoreIn f n q (fun u => u < v + 1) (C.set v ((q : Int) + 1)) :=
  h.put hv ((hp.peel.core hg hv).1 hb) fun u => by omega
theorem CoreIn.out_ {f : Nat → Nat → Bool} {n q v : Nat} {C : List Int} {B : List Bool} (h : CoreIn f n q (fun u => u < v) C) (hv : v < n) (hp : PeelB f n (q + 1) B) (hb : B.getD v false = false) : CoreIn f n q (fun u => u < v + 1) C :=
  h.keep (fun u hu hm => by
    by_cases e : u = v
    · subst e
      refine .inr fun hc => ?_
      have : B.getD u false = true := hp.peel u hu hc
      rw [hb] at this; cases this
    · exact .inl (by omega)) fun u _ hu => by omega
theorem CoreIn.zero {f : Nat → Nat → Bool} {n q : Nat} {C : List Int} (h : CoreTo f n q C) : CoreIn f n q (fun u => u < 0) C := h.open.keep (fun u _ hu => by omega) fun u _ hu => hu.elim
theorem CoreIn.all_ {f : Nat → Nat → Bool} {n q : Nat} {C : List Int} (h : CoreIn f n q (fun u => u < n) C) : CoreTo f n (q + 1) C := h.close fun u hu => .inl hu
theorem CoreTo.end_ {f : Nat → Nat → Bool} {n q : Nat} {C : List Int} (h : CoreTo f n q C) (hq : n ≤ q + 1) (hf : ∀ v, f v v = false) : IsCores f n C := h.cores fun v hv j hj hc => by
  have := hc.lt hv (hf v)
  omega
end Go.Proofs.YtobhekkgbccoiaaDoor
