/-
  The program's heap (container/heap over a slice of pairs behind a pointer): up, down, Push, Pop.
-/
import Derived.Test.YtgdggkhdollieaaDoorTri
import Derived.Test.YtgdggkhdollieaaDoorRel
import Derived.Test.YtgdggkhdollieaaDoorLib3
import Derived.Test.YtgdggkhdollieaaDoorHeapP
import Derived.Test.YtgdggkhdollieaaDoorStage
namespace Go.Proofs.YtgdggkhdollieaaDoor
open Go.RowKit
set_option linter.unusedVariables false

/-- A truth was returned. -/
def IsB (e : Ending) : Prop := ∃ b, e = .returned (.bool b)
def SameM (A B : List (Nat × Nat)) : Prop := ∀ y, y ∈ A ↔ y ∈ B
def prs (L : List (Nat × Nat)) : List Value := L.flatMap fun y => [.int .i64 y.1, .int .i64 y.2]
theorem prs_cons (y : Nat × Nat) (L : List (Nat × Nat)) : prs (y :: L) = .int .i64 y.1 :: .int .i64 y.2 :: prs L := rfl
theorem prs_append (A B : List (Nat × Nat)) : prs (A ++ B) = prs A ++ prs B := by simp [prs]
theorem prs_length (L : List (Nat × Nat)) : (prs L).length = L.length * 2 := by
  induction L with
  | nil => rfl
  | cons y L ih => rw [prs_cons]; simp only [List.length_cons, ih]; omega
theorem prs_get (L : List (Nat × Nat)) : ∀ k, k < L.length → (prs L)[k * 2]? = some (.int .i64 (cvAt L k).1) ∧ (prs L)[k * 2 + 1]? = some (.int .i64 (cvAt L k).2) := by
  induction L with
  | nil => intro k h; simp at h
  | cons y L ih =>
    intro k h
    cases k with
    | zero => exact ⟨rfl, rfl⟩
    | succ k =>
      have := ih k (by simpa using h)
      rw [prs_cons, show (k + 1) * 2 = k * 2 + 1 + 1 from by omega]
      simp only [List.getElem?_cons_succ, cvAt, List.getD_cons_succ]
      exact this
theorem prs_set (L : List (Nat × Nat)) (y : Nat × Nat) : ∀ k, k < L.length → ((prs L).set (k * 2) (.int .i64 y.1)).set (k * 2 + 1) (.int .i64 y.2) = prs (L.set k y) := by
  induction L with
  | nil => intro k h; simp at h
  | cons x L ih =>
    intro k h
    cases k with
    | zero => rfl
    | succ k =>
      have := ih k (by simpa using h)
      rw [prs_cons, show (k + 1) * 2 = k * 2 + 1 + 1 from by omega]
      simp only [List.set_cons_succ, prs_cons, this]
theorem prs_take (L : List (Nat × Nat)) (m : Nat) : (prs L).take (m * 2) = prs (L.take m) := by
  induction L generalizing m with
  | nil => simp [prs]
  | cons y L ih =>
    cases m with
    | zero => rfl
    | succ m =>
      rw [prs_cons, show (m + 1) * 2 = m * 2 + 1 + 1 from by omega]
      simp only [List.take_succ_cons, prs_cons, ih]
theorem prs_one (L : List (Nat × Nat)) : ∀ u ∈ prs L, u.oneCell' = true := by
  intro u hu
  simp only [prs, List.mem_flatMap] at hu
  obtain ⟨y, _, h⟩ := hu
  simp only [List.mem_cons, List.not_mem_nil, or_false] at h
  rcases h with rfl | rfl <;> rfl
theorem child_min1' {L : List (Nat × Nat)} {i m a : Nat} (ha : a = 2 * i + 1) (h : m ≤ 2 * i + 2) : ∀ k, 0 < k → k < m → (k - 1) / 2 = i → CvLe (cvAt L a) (cvAt L k) := by
  rw [ha]; exact child_min1 h
/-- A row of pairs. -/
def PRow (lo g n cap : Nat) (w : World) (L : List (Nat × Nat)) : Prop := L.length = n ∧ w.ownsRow lo 58 2 (.slice (some ⟨g, 0, none⟩) n cap) n (prs L)
section
variable {lo g n cap : Nat} {w w' : World} {L : List (Nat × Nat)}
theorem PRow.lt (h : PRow lo g n cap w L) : lo ≤ g ∧ g < w.heap.size := h.2.lt g rfl
theorem PRow.cells (h : PRow lo g n cap w L) {k : Nat} (hk : k < n) : w.cell? ⟨g, k * 2, none⟩ = some (.int .i64 (cvAt L k).1) ∧ w.cell? ⟨g, k * 2 + 1, none⟩ = some (.int .i64 (cvAt L k).2) ∧ w.frozen? ⟨g, k * 2, none⟩ = false ∧ w.frozen? ⟨g, k * 2 + 1, none⟩ = false := by
  obtain ⟨h1, h2⟩ := h
  have e := prs_get L k (by omega)
  exact ⟨by rw [h2.cellAt (k * 2) (by omega)]; exact e.1, by rw [h2.cellAt (k * 2 + 1) (by omega)]; exact e.2, h2.frozenAt _, h2.frozenAt _⟩
theorem PRow.put (h : PRow lo g n cap w L) {k : Nat} (hk : k < n) (y : Nat × Nat) : PRow lo g n cap ((w.setCell ⟨g, k * 2, none⟩ (.int .i64 y.1)).setCell ⟨g, k * 2 + 1, none⟩ (.int .i64 y.2)) (L.set k y) ∧ w.grownBy ((w.setCell ⟨g, k * 2, none⟩ (.int .i64 y.1)).setCell ⟨g, k * 2 + 1, none⟩ (.int .i64 y.2)) (some g) := by
  obtain ⟨h1, h2⟩ := h
  have s1 := h2.stored (k * 2) (.int .i64 y.1)
  have s2 := s1.1.stored (k * 2 + 1) (.int .i64 y.2)
  refine ⟨⟨by simpa using h1, ?_⟩, s1.2.trans s2.2⟩
  rw [← prs_set L y k (by omega)]; exact s2.1
theorem PRow.keep (h : PRow lo g n cap w L) (hb : Below w.heap.size w w') : PRow lo g n cap w' L := ⟨h.1, ownsRow_keep h.2 hb⟩
end
theorem below_grownBy {w w' : World} {row : Option Nat} (h : Below w.heap.size w w') : w.grownBy w' row :=
  ⟨h.1, h.2, h.3, h.size, fun k hk _ => h.block k hk⟩
/-- Two operations write, a and then b; d and e come ahead of them. -/
def Stq (a b d e : Nat) (w0 w1 w2 : World) (L : Nat → Bool) (w : World) : Prop :=
  (L a = true → L d = true ∧ L e = true) ∧ (L b = true → L a = true) ∧ w = if L b then w2 else if L a then w1 else w0
section
variable {a b d e : Nat} {w0 w1 w2 w : World} {L : Nat → Bool}
theorem Stq.start (h : w = w0) : Stq a b d e w0 w1 w2 (fun _ => false) w := ⟨fun h => (by cases h), fun h => (by cases h), h⟩
theorem Stq.other (h : Stq a b d e w0 w1 w2 L w) {i : Nat} (hi : i ≠ a ∧ i ≠ b) : Stq a b d e w0 w1 w2 (setL L i) w := by
  obtain ⟨h1, h2, h3⟩ := h
  have ea : setL L i a = L a := setL_other fun e => hi.1 e.symm
  have eb : setL L i b = L b := setL_other fun e => hi.2 e.symm
  have up : ∀ k, L k = true → setL L i k = true := fun k hk => by
    by_cases e : k = i
    · subst e; exact setL_self
    · rw [setL_other e]; exact hk
  refine ⟨?_, by rw [ea, eb]; exact h2, by rw [ea, eb]; exact h3⟩
  rw [ea]
  intro ha
  exact ⟨up _ (h1 ha).1, up _ (h1 ha).2⟩
theorem Stq.first (h : Stq a b d e w0 w1 w2 L w) (hd : L d = false ∨ L e = false) : w = w0 := by
  obtain ⟨h1, h2, h3⟩ := h
  have ha : L a = false := by
    cases ea : L a with
    | false => rfl
    | true => have := h1 ea; rcases hd with hd | hd <;> simp [hd] at this
  have hb : L b = false := by
    cases eb : L b with
    | false => rfl
    | true => have := h2 eb; simp [ha] at this
  rw [h3, hb, ha]; rfl
theorem Stq.at_a (h : Stq a b d e w0 w1 w2 L w) (hd : L d = true) (he : L e = true) (ha : L a = false) (hab : b ≠ a ∧ d ≠ a ∧ e ≠ a) : w = w0 ∧ Stq a b d e w0 w1 w2 (setL L a) w1 := by
  obtain ⟨h1, h2, h3⟩ := h
  have hb : L b = false := by
    cases eb : L b with
    | false => rfl
    | true => have := h2 eb; simp [ha] at this
  refine ⟨by rw [h3, hb, ha]; rfl, fun _ => ?_, fun _ => setL_self, ?_⟩
  · rw [setL_other hab.2.1, setL_other hab.2.2]; exact ⟨hd, he⟩
  · rw [setL_other hab.1, hb, setL_self]; rfl
theorem Stq.at_b (h : Stq a b d e w0 w1 w2 L w) (ha : L a = true) (hb : L b = false) (hab : a ≠ b ∧ d ≠ b ∧ e ≠ b) : w = w1 ∧ Stq a b d e w0 w1 w2 (setL L b) w2 := by
  obtain ⟨h1, h2, h3⟩ := h
  refine ⟨by rw [h3, hb, ha]; rfl, fun _ => ?_, fun _ => ?_, ?_⟩
  · rw [setL_other hab.2.1, setL_other hab.2.2]; exact h1 ha
  · rw [setL_other hab.1]; exact ha
  · rw [setL_self]; rfl
theorem Stq.end (h : Stq a b d e w0 w1 w2 L w) (hb : L b = true) : w = w2 := by
  obtain ⟨h1, h2, h3⟩ := h
  rw [h3, hb]; rfl
end

set_option maxRecDepth 100000 in
set_option maxHeartbeats 4000000 in
theorem swap_any (w : World) (lo g n cap i j : Nat) (L : List (Nat × Nat)) (h : PRow lo g n cap w L) (hi : i < n) (hj : j < n) (hn : n ≤ 1000000) (hc : n ≤ cap) (hm : cap ≤ maxLen) :
    Calls Tryd.prog 63 #[.slice (some ⟨g, 0, none⟩) n cap, .int .i64 i, .int .i64 j] w fun e w' => e = .returned (.tuple #[]) ∧ PRow lo g n cap w' (swp L i j) ∧ w.grownBy w' (some g) := by
  obtain ⟨wd, hwd⟩ : ∃ wd, wd = w.drew := ⟨_, rfl⟩
  have HG : Hid (w.grownBy wd (some g)) := Lib.hid (by rw [hwd]; exact ⟨rfl, rfl, rfl, Nat.le_refl _, fun _ _ _ => rfl⟩)
  replace h : PRow lo g n cap wd L := by rw [hwd]; exact ⟨h.1, h.2⟩
  have HWD := Lib.hid hwd; clear hwd
  obtain ⟨i0, i1, if0, if1⟩ := h.cells hi
  obtain ⟨j0, j1, jf0, jf1⟩ := h.cells hj
  obtain ⟨a, ha⟩ : ∃ a, cvAt L i = a := ⟨_, rfl⟩
  obtain ⟨b, hb⟩ : ∃ b, cvAt L j = b := ⟨_, rfl⟩
  rw [ha] at i0 i1; rw [hb] at j0 j1
  have p1 := h.put hi b
  obtain ⟨-, -, q2, q3⟩ := p1.1.cells hj
  obtain ⟨q0, q1, -, -⟩ := p1.1.cells hj
  have p2 := p1.1.put hj a
  have HP : Hid (PRow lo g n cap _ (swp L i j) ∧ wd.grownBy _ (some g)) := Lib.hid ⟨by unfold swp; rw [ha, hb]; exact p2.1, p1.2.trans p2.2⟩
  generalize cvAt (L.set i b) j = z at q0 q1
  obtain ⟨z0, z1⟩ := z
  obtain ⟨a0, a1⟩ := a; obtain ⟨b0, b1⟩ := b
  simp only at i0 i1 j0 j1 q0 q1 q2 q3 HP
  have HI : Hid (wd.cell? ⟨g, i * 2, none⟩ = some (.int .i64 a0) ∧ wd.cell? ⟨g, i * 2 + 1, none⟩ = some (.int .i64 a1) ∧ wd.frozen? ⟨g, i * 2, none⟩ = false ∧ wd.frozen? ⟨g, i * 2 + 1, none⟩ = false) := Lib.hid ⟨i0, i1, if0, if1⟩
  have HJ : Hid (wd.cell? ⟨g, j * 2, none⟩ = some (.int .i64 b0) ∧ wd.cell? ⟨g, j * 2 + 1, none⟩ = some (.int .i64 b1)) := Lib.hid ⟨j0, j1⟩
  have HQ := Lib.hid (And.intro q0 (And.intro q1 (And.intro q2 q3)))
  clear i0 i1 if0 if1 j0 j1 jf0 jf1 q0 q1 q2 q3 p1 p2 ha hb h
  go_enter Tryd.func63, Tryd.ntmps63
  go_wp2_with fail
  refine wp_region_relA (fun x => { tmps := #[.slice (some ⟨g, 0, none⟩) n cap, .int .i64 i, .int .i64 j, undef, undef, undef, x 6, x 7, x 8, x 9, x 10, x 11, x 12, x 13, x 14, x 15, x 16, x 17, x 18, x 19], defers := [] })
    (fun _ L wx => Stq 13 15 7 11 wd ((wd.setCell ⟨g, i * 2, none⟩ (.int .i64 b0)).setCell ⟨g, i * 2 + 1, none⟩ (.int .i64 b1)) ((((wd.setCell ⟨g, i * 2, none⟩ (.int .i64 b0)).setCell ⟨g, i * 2 + 1, none⟩ (.int .i64 b1)).setCell ⟨g, j * 2, none⟩ (.int .i64 a0)).setCell ⟨g, j * 2 + 1, none⟩ (.int .i64 a1)) L wx) (fun _ _ _ => True)
    (Tl [cst (.slice (some ⟨g, 0, none⟩) n cap), cst (.int .i64 i), cst (.slice (some ⟨g, 0, none⟩) n cap), cst (.int .i64 j), cst (.slice (some ⟨g, 0, none⟩) n cap), cst (.int .i64 j), cst (.pointer (some ⟨g, j * 2, none⟩)), cst (.agg #[.int .i64 b0, .int .i64 b1]), cst (.slice (some ⟨g, 0, none⟩) n cap), cst (.int .i64 i), cst (.pointer (some ⟨g, i * 2, none⟩)), cst (.agg #[.int .i64 a0, .int .i64 a1]), cst (.pointer (some ⟨g, i * 2, none⟩)), tru, cst (.pointer (some ⟨g, j * 2, none⟩)), tru]) rfl
    (by kernel_rfl) (by kernel_rfl) (by kernel_rfl) (stab_Tl ?hst) (fun _ _ => trivial) (Stq.start HWD.out.symm) ?hput ?hop ?hend
  case hst =>
    simp only [List.mem_cons, List.not_mem_nil, or_false, forall_eq_or_imp, forall_eq]
    refine ⟨?_, ?_, ?_, ?_, ?_, ?_, ?_, ?_, ?_, ?_, ?_, ?_, ?_, ?_, ?_, ?_⟩
    all_goals first | exact stab_cst _ _ | exact stab_tru _
  case hput =>
    refine ⟨?_, ?_, ?_, ?_, ?_, ?_, ?_, ?_, ?_, ?_, ?_, ?_, ?_, ?_, ?_, ?_, trivial⟩
    all_goals first | exact fun x v => rfl | exact trivial
  case hop =>
    refine ⟨?_, ?_, ?_, ?_, ?_, ?_, ?_, ?_, ?_, ?_, ?_, ?_, ?_, ?_, ?_, ?_, trivial⟩
    · refine OpRel.plain rfl fun n L x wx K hn hL hG hdep hK => ?_
      clear hdep; go_simp
      exact hK _ _ (hG.other (by decide)) trivial rfl
    · refine OpRel.plain rfl fun n L x wx K hn hL hG hdep hK => ?_
      clear hdep; go_simp
      exact hK _ _ (hG.other (by decide)) trivial rfl
    · refine OpRel.plain rfl fun n L x wx K hn hL hG hdep hK => ?_
      clear hdep; go_simp
      exact hK _ _ (hG.other (by decide)) trivial rfl
    · refine OpRel.plain rfl fun n L x wx K hn hL hG hdep hK => ?_
      clear hdep; go_simp
      exact hK _ _ (hG.other (by decide)) trivial rfl
    · refine OpRel.plain rfl fun n L x wx K hn hL hG hdep hK => ?_
      clear hdep; go_simp
      exact hK _ _ (hG.other (by decide)) trivial rfl
    · refine OpRel.plain rfl fun n L x wx K hn hL hG hdep hK => ?_
      clear hdep; go_simp
      exact hK _ _ (hG.other (by decide)) trivial rfl
    · refine OpRel.plain rfl fun n L x wx K hn hL hG hdep hK => ?_
      have h10 : x 10 = _ := (hdep 4 rfl).2 _ rfl
      have h11 : x 11 = _ := (hdep 5 rfl).2 _ rfl
      clear hdep; simp only [h10, h11] at hK; go_simp
      exact hK _ _ (hG.other (by decide)) trivial rfl
    · refine OpRel.plain rfl fun n L x wx K hn hL hG hdep hK => ?_
      have h12 : x 12 = _ := (hdep 6 rfl).2 _ rfl
      have hwe := hG.first (.inl hL)
      subst hwe
      obtain ⟨k0, k1⟩ := HJ.out
      clear hdep; simp only [h12] at hK; go_simp
      exact hK _ _ (hG.other (by decide)) trivial rfl
    · refine OpRel.plain rfl fun n L x wx K hn hL hG hdep hK => ?_
      clear hdep; go_simp
      exact hK _ _ (hG.other (by decide)) trivial rfl
    · refine OpRel.plain rfl fun n L x wx K hn hL hG hdep hK => ?_
      clear hdep; go_simp
      exact hK _ _ (hG.other (by decide)) trivial rfl
    · refine OpRel.plain rfl fun n L x wx K hn hL hG hdep hK => ?_
      have h14 : x 14 = _ := (hdep 8 rfl).2 _ rfl
      have h15 : x 15 = _ := (hdep 9 rfl).2 _ rfl
      clear hdep; simp only [h14, h15] at hK; go_simp
      exact hK _ _ (hG.other (by decide)) trivial rfl
    · refine OpRel.plain rfl fun n L x wx K hn hL hG hdep hK => ?_
      have h16 : x 16 = _ := (hdep 10 rfl).2 _ rfl
      have hwe := hG.first (.inr hL)
      subst hwe
      obtain ⟨k0, k1, -, -⟩ := HI.out
      clear hdep; simp only [h16] at hK; go_simp
      exact hK _ _ (hG.other (by decide)) trivial rfl
    · refine OpRel.plain rfl fun n L x wx K hn hL hG hdep hK => ?_
      have h6 : x 6 = _ := (hdep 0 rfl).2 _ rfl
      have h7 : x 7 = _ := (hdep 1 rfl).2 _ rfl
      clear hdep; simp only [h6, h7] at hK; go_simp
      exact hK _ _ (hG.other (by decide)) trivial rfl
    · refine OpRel.plain rfl fun n L x wx K hn hL hG hdep hK => ?_
      have h18 : x 18 = _ := (hdep 12 rfl).2 _ rfl
      have h13 : x 13 = _ := (hdep 7 rfl).2 _ rfl
      have l7 := (hdep 7 rfl).1; have l11 := (hdep 11 rfl).1
      obtain ⟨hwe, hS⟩ := hG.at_a l7 l11 hL (by decide)
      subst hwe
      obtain ⟨k0, k1, f0, f1⟩ := HI.out
      clear hdep; simp only [h18, h13] at hK; go_simp
      exact hK undef _ hS trivial trivial
    · refine OpRel.plain rfl fun n L x wx K hn hL hG hdep hK => ?_
      have h8 : x 8 = _ := (hdep 2 rfl).2 _ rfl
      have h9 : x 9 = _ := (hdep 3 rfl).2 _ rfl
      clear hdep; simp only [h8, h9] at hK; go_simp
      exact hK _ _ (hG.other (by decide)) trivial rfl
    · refine OpRel.plain rfl fun n L x wx K hn hL hG hdep hK => ?_
      have h19 : x 19 = _ := (hdep 14 rfl).2 _ rfl
      have h17 : x 17 = _ := (hdep 11 rfl).2 _ rfl
      have l13 := (hdep 13 rfl).1
      obtain ⟨hwe, hS⟩ := hG.at_b l13 hL (by decide)
      subst hwe
      obtain ⟨k0, k1, f0, f1⟩ := HQ.out
      clear hdep; simp only [h19, h17] at hK; go_simp
      exact hK undef _ hS trivial trivial
  case hend =>
    intro n L x wx _ hG hh
    have hwe := hG.end (hh 15 (by decide)).1
    subst hwe
    clear hh hG
    go_wp2_with fail
    go_end0
    exact ⟨rfl, HP.out.1, HG.out.trans HP.out.2⟩

set_option maxRecDepth 100000 in
set_option maxHeartbeats 4000000 in
theorem less_any (w : World) (lo g n cap i j : Nat) (L : List (Nat × Nat)) (h : PRow lo g n cap w L) (hi : i < n) (hj : j < n) (hn : n ≤ 1000000) (hc : n ≤ cap) (hm : cap ≤ maxLen) :
    Calls Tryd.prog 60 #[.slice (some ⟨g, 0, none⟩) n cap, .int .i64 i, .int .i64 j] w fun e w' => e = .returned (.bool (cvlt (cvAt L i) (cvAt L j))) ∧ Below w.heap.size w w' := by
  obtain ⟨i0, i1, -, -⟩ := h.cells hi
  obtain ⟨j0, j1, -, -⟩ := h.cells hj
  have hg := h.lt.2
  unfold cvlt
  clear h
  generalize cvAt L i = a at *; generalize cvAt L j = b at *
  obtain ⟨a0, a1⟩ := a; obtain ⟨b0, b1⟩ := b
  simp only at i0 i1 j0 j1 ⊢
  have g0 := fun p => GrownW.cell (B := w.heap.size) i0 hg p
  have g1 := fun p => GrownW.cell (B := w.heap.size) j0 hg p
  by_cases h0 : a0 = b0
  · subst h0
    rw [if_pos rfl]
    go_enter Tryd.func60, Tryd.ntmps60
    go_wp2_with fail
    refine wp_region_grown w.heap.size (by kernel_rfl) (by kernel_rfl) ?_
    repeat (go_big_quiet_step (fail))
    refine wpQuiet_done ?_
    intro w1 hb1
    have HB := Lib.hid hb1
    have hg1 : g < w1.heap.size := by have := hb1.size; omega
    replace g0 := fun p => GrownW.cell (B := w1.heap.size) ((hb1.cell (p := ⟨g, i * 2 + 1, none⟩) hg).trans i1) hg1 p
    replace g1 := fun p => GrownW.cell (B := w1.heap.size) ((hb1.cell (p := ⟨g, j * 2 + 1, none⟩) hg).trans j1) hg1 p
    clear hb1 i0 i1 j0 j1
    go_wp2_with fail
    refine wp_region_grown w1.heap.size (by kernel_rfl) (by kernel_rfl) ?_
    repeat (go_big_quiet_step (fail))
    refine wpQuiet_done ?_
    intro w2 hb2
    replace HB := Lib.hid (HB.out.tr hb2)
    clear hb2 g0 g1
    go_wp2_with fail
    go_ret
    exact ⟨rfl, HB.out⟩
  · have t0 : ((a0 : Int) == (b0 : Int)) = false := by simp; omega
    have t1 : (a0 == b0) = false := by simpa using h0
    rw [if_neg h0]
    go_enter Tryd.func60, Tryd.ntmps60
    go_wp2_with fail
    refine wp_region_grown w.heap.size (by kernel_rfl) (by kernel_rfl) ?_
    repeat (go_big_quiet_step (fail))
    refine wpQuiet_done ?_
    intro w1 hb1
    have HB := Lib.hid hb1
    have hg1 : g < w1.heap.size := by have := hb1.size; omega
    replace g0 := fun p => GrownW.cell (B := w1.heap.size) ((hb1.cell (p := ⟨g, i * 2, none⟩) hg).trans i0) hg1 p
    replace g1 := fun p => GrownW.cell (B := w1.heap.size) ((hb1.cell (p := ⟨g, j * 2, none⟩) hg).trans j0) hg1 p
    clear hb1 i0 i1 j0 j1
    go_wp2_with fail
    refine wp_region_grown w1.heap.size (by kernel_rfl) (by kernel_rfl) ?_
    repeat (go_big_quiet_step (fail))
    refine wpQuiet_done ?_
    intro w2 hb2
    replace HB := Lib.hid (HB.out.tr hb2)
    clear hb2 g0 g1
    go_wp2_with fail
    go_ret
    exact ⟨rfl, HB.out⟩

set_option maxRecDepth 100000 in
theorem less_at {w : World} {B : Nat} {sv : Value} (h : w.cell? ⟨B, 0, none⟩ = some sv) (F : Nat) : (method (F + 1) 56 (.pointer (some ⟨B, 0, none⟩)) "Less").run Tryd.prog w = .ok (60, sv) w := by
  have e : (method (F + 1) 56 (.pointer (some ⟨B, 0, none⟩)) "Less").run Tryd.prog w = ((fun v => (60, v)) <$> (loadVar 60 ⟨B, 0, none⟩)).run Tryd.prog w := by kernel_rfl
  rw [e]
  go_simp
set_option maxRecDepth 100000 in
theorem swap_at {w : World} {B : Nat} {sv : Value} (h : w.cell? ⟨B, 0, none⟩ = some sv) (F : Nat) : (method (F + 1) 56 (.pointer (some ⟨B, 0, none⟩)) "Swap").run Tryd.prog w = .ok (63, sv) w := by
  have e : (method (F + 1) 56 (.pointer (some ⟨B, 0, none⟩)) "Swap").run Tryd.prog w = ((fun v => (63, v)) <$> (loadVar 60 ⟨B, 0, none⟩)).run Tryd.prog w := by kernel_rfl
  rw [e]
  go_simp
set_option maxRecDepth 100000 in
theorem len_at {w : World} {B : Nat} {sv : Value} (h : w.cell? ⟨B, 0, none⟩ = some sv) (F : Nat) : (method (F + 1) 56 (.pointer (some ⟨B, 0, none⟩)) "Len").run Tryd.prog w = .ok (27, sv) w := by
  have e : (method (F + 1) 56 (.pointer (some ⟨B, 0, none⟩)) "Len").run Tryd.prog w = ((fun v => (27, v)) <$> (loadVar 60 ⟨B, 0, none⟩)).run Tryd.prog w := by kernel_rfl
  rw [e]
  go_simp
set_option maxRecDepth 100000 in
set_option maxHeartbeats 4000000 in
theorem up_any (w : World) (lo B g n cap j : Nat) (L : List (Nat × Nat)) (h : PRow lo g n cap w L) (hbx : w.cell? ⟨B, 0, none⟩ = some (.slice (some ⟨g, 0, none⟩) n cap)) (hu : UpInv L j) (hgB : B ≠ g) (hn : n ≤ 1000000) (hc : n ≤ cap) (hm : cap ≤ maxLen) :
    Calls Tryd.prog 39 #[.iface 56 (.pointer (some ⟨B, 0, none⟩)), .int .i64 j] w fun e w' => e = .returned (.tuple #[]) ∧ ∃ L', PRow lo g n cap w' L' ∧ IsHeap L' n ∧ (∀ y, y ∈ L' ↔ y ∈ L) ∧ w.grownBy w' (some g) := by
  have H0 := Lib.hid h; have U0 := Lib.hid hu; have BX0 := Lib.hid hbx
  clear h hu hbx
  go_enter Tryd.func39, Tryd.ntmps39
  go_wp2_with fail
  go_loopw [1] (fun jv wr => ∃ (j' : Nat) (L' : List (Nat × Nat)), jv = .int .i64 j' ∧ Hid (PRow lo g n cap wr L') ∧ Hid (UpInv L' j') ∧ Hid (∀ y, y ∈ L' ↔ y ∈ L) ∧ Hid (w.grownBy wr (some g))) (fun jv _ => (intOf jv).toNat)
  case atStart => exact ⟨j, L, rfl, H0, U0, Lib.hid fun y => Iff.rfl, Lib.hid ⟨rfl, rfl, rfl, Nat.le_refl _, fun _ _ _ => rfl⟩⟩
  case round =>
    clear H0 U0
    obtain ⟨j', L', rfl, H, U, M, G⟩ := hrel
    have hjn : j' < n := by have := U.out.lt; have := H.out.1; omega
    have hBX : wr.cell? ⟨B, 0, none⟩ = some (.slice (some ⟨g, 0, none⟩) n cap) := by
      rw [World.cell?_of_block (G.out.block B (World.block_lt_of_cell? _ _ BX0.out) (by intro e; injection e with e; omega))]; exact BX0.out
    have hml := less_at hBX
    by_cases h0 : 0 < j'
    · obtain ⟨p, hp⟩ : ∃ p, (j' - 1) / 2 = p := ⟨_, rfl⟩
      have hpn : p < n := by omega
      have hq1 : IntKind.i64.wrap ((j' : Int) - 1) = (j' : Int) - 1 := IntWalk.i64_in _ (by omega)
      have hq2 : Int.tdiv ((j' : Int) - 1) 2 = (p : Int) := by rw [Int.tdiv_eq_ediv_of_nonneg (by omega), ← hp]; omega
      have HLS := Lib.hid (less_any wr lo g n cap j' p L' H.out hjn hpn hn hc hm)
      have hpj : ((p : Int) == (j' : Int)) = false := by simp; omega
      go_wp2_with fail
      refine HLS.out.mono ?_
      rintro e w1 ⟨rfl, hb1⟩
      have hcv1 := @cvlt_yes (cvAt L' j') (cvAt L' p)
      have hcv0 := @cvlt_no (cvAt L' j') (cvAt L' p)
      have HCV1 := Lib.hid hcv1; have HCV0 := Lib.hid hcv0
      generalize cvlt (cvAt L' j') (cvAt L' p) = t at *
      have H1 := Lib.hid (H.out.keep hb1)
      have G1 : Hid (w.grownBy w1 (some g)) := Lib.hid (G.out.trans (below_grownBy hb1))
      have hBX1 : w1.cell? ⟨B, 0, none⟩ = some (.slice (some ⟨g, 0, none⟩) n cap) := (hb1.cell (p := ⟨B, 0, none⟩) (World.block_lt_of_cell? _ _ hBX)).trans hBX
      have hms := swap_at hBX1
      clear hb1 hcv1 hcv0 HLS hml hBX H G
      cases t
      · have hle := HCV0.out rfl
        have HH : Hid (IsHeap L' n) := Lib.hid (by have := U.out.end1 (by rw [hp]; exact hle); rwa [H1.out.1] at this)
        clear hle HCV0 HCV1 hms
        go_wp2_with fail
        go_end0
        exact ⟨rfl, L', H1.out, HH.out, M.out, G1.out⟩
      · have hlt := HCV1.out rfl
        have HU := Lib.hid (U.out.step h0 hp hlt)
        have HSW := Lib.hid (swap_any w1 lo g n cap p j' L' H1.out hpn hjn hn hc hm)
        have HM : Hid (∀ y, y ∈ swp L' p j' ↔ y ∈ L) := Lib.hid fun y => (mem_swp (by rw [H1.out.1]; exact hpn) (by rw [H1.out.1]; exact hjn) y).trans (M.out y)
        clear hlt HCV0 HCV1
        go_wp2_with fail
        refine HSW.out.mono ?_
        rintro e w2 ⟨rfl, h2, hg2⟩
        have H2 := Lib.hid h2; have G2 := Lib.hid (G1.out.trans hg2)
        clear h2 hg2 hms HSW
        go_wp2_with fail
        go_roundw
        case rel => exact ⟨p, _, rfl, H2, HU, HM, G2⟩
        case measure => simp [intOf]; omega
    · obtain rfl : j' = 0 := by omega
      have HH : Hid (IsHeap L' n) := Lib.hid (by have := U.out.end0; rwa [H.out.1] at this)
      clear hml
      go_wp2_with fail
      go_end0
      exact ⟨rfl, L', H.out, HH.out, M.out, G.out⟩

set_option maxRecDepth 100000 in
set_option maxHeartbeats 8000000 in
theorem down_any (w : World) (lo B g n cap m : Nat) (L : List (Nat × Nat)) (h : PRow lo g n cap w L) (hbx : w.cell? ⟨B, 0, none⟩ = some (.slice (some ⟨g, 0, none⟩) n cap)) (hd : DownInv L 0 m) (hmn : m ≤ n) (hgB : B ≠ g) (h0n : 0 < n) (hn : n ≤ 1000000) (hc : n ≤ cap) (hm : cap ≤ maxLen) :
    Calls Tryd.prog 38 #[.iface 56 (.pointer (some ⟨B, 0, none⟩)), .int .i64 0, .int .i64 m] w fun e w' => IsB e ∧ ∃ L', PRow lo g n cap w' L' ∧ IsHeap L' m ∧ SameM L' L ∧ (∀ k, m ≤ k → cvAt L' k = cvAt L k) ∧ w.grownBy w' (some g) := by
  have H0 := Lib.hid h; have U0 := Lib.hid hd; have BX0 := Lib.hid hbx
  clear h hd hbx
  go_enter Tryd.func38, Tryd.ntmps38
  go_wp2_with fail
  go_loopw [7] (fun iv wr => ∃ (i : Nat) (L' : List (Nat × Nat)), iv = .int .i64 i ∧ i < n ∧ Hid (PRow lo g n cap wr L') ∧ Hid (DownInv L' i m) ∧ Hid (∀ y, y ∈ L' ↔ y ∈ L) ∧ Hid (∀ k, m ≤ k → cvAt L' k = cvAt L k) ∧ Hid (w.grownBy wr (some g))) (fun iv _ => m - (intOf iv).toNat)
  case atStart => exact ⟨0, L, rfl, h0n, H0, U0, Lib.hid fun y => Iff.rfl, Lib.hid fun k _ => rfl, Lib.hid ⟨rfl, rfl, rfl, Nat.le_refl _, fun _ _ _ => rfl⟩⟩
  case round =>
    clear H0 U0
    obtain ⟨i, L', rfl, hin, H, U, M, AB, G⟩ := hrel
    have hBX : wr.cell? ⟨B, 0, none⟩ = some (.slice (some ⟨g, 0, none⟩) n cap) := by
      rw [World.cell?_of_block (G.out.block B (World.block_lt_of_cell? _ _ BX0.out) (by intro e; injection e with e; omega))]; exact BX0.out
    obtain ⟨a, ha⟩ : ∃ a, 2 * i + 1 ≤ a ∧ a ≤ 2 * i + 1 := ⟨_, Nat.le_refl _, Nat.le_refl _⟩
    obtain ⟨b, hb⟩ : ∃ b, 2 * i + 2 ≤ b ∧ b ≤ 2 * i + 2 := ⟨_, Nat.le_refl _, Nat.le_refl _⟩
    have hw1 : IntKind.i64.wrap (2 * (i : Int)) = 2 * (i : Int) := IntWalk.i64_in _ (by omega)
    have hw2 : 2 * (i : Int) + 1 = (a : Int) := by omega
    have hw3 : (a : Int) + 1 = (b : Int) := by omega
    by_cases hA : m ≤ a
    · have t0 : decide ((m : Int) ≤ (a : Int)) = true := by simp; omega
      have t0' : decide (m ≤ a) = true := by simpa using hA
      have HH := Lib.hid (U.out.end0 (by omega))
      clear U hw3
      go_wp2_with fail
      go_ret
      exact ⟨⟨_, rfl⟩, L', H.out, HH.out, M.out, AB.out, G.out⟩
    · have t0 : decide ((m : Int) ≤ (a : Int)) = false := by simp; omega
      have t0' : decide (m ≤ a) = false := by simp; omega
      have t2 : decide ((a : Int) < 0) = false := by simp
      have han : a < n := by omega
      by_cases hB : b < m
      · have t1 : decide (b < m) = true := by simpa using hB
        have hbn : b < n := by omega
        have HLS := Lib.hid (less_any wr lo g n cap b a L' H.out hbn han hn hc hm)
        have hml := less_at hBX
        go_wp2_with fail
        refine HLS.out.mono ?_
        rintro e w1 ⟨rfl, hb1⟩
        have HCV1 := Lib.hid (@cvlt_yes (cvAt L' b) (cvAt L' a))
        have HCV0 := Lib.hid (@cvlt_no (cvAt L' b) (cvAt L' a))
        generalize cvlt (cvAt L' b) (cvAt L' a) = t at *
        replace H := Lib.hid (H.out.keep hb1)
        replace G : Hid (w.grownBy w1 (some g)) := Lib.hid (G.out.trans (below_grownBy hb1))
        replace hBX : w1.cell? ⟨B, 0, none⟩ = some (.slice (some ⟨g, 0, none⟩) n cap) := (hb1.cell (p := ⟨B, 0, none⟩) (World.block_lt_of_cell? _ _ hBX)).trans hBX
        clear hb1 HLS hml
        cases t
        · have HMIN : Hid (∀ k, 0 < k → k < m → (k - 1) / 2 = i → CvLe (cvAt L' a) (cvAt L' k)) := Lib.hid (by
            have := HCV0.out rfl
            obtain rfl : a = 2 * i + 1 := by omega
            obtain rfl : b = 2 * i + 2 := by omega
            exact child_minL this)
          have hqn := han; have hq0 : 0 < a := by omega
          have hqm : a < m := by omega
          have hqp : (a - 1) / 2 = i := by omega
          clear HCV0 HCV1
          have hml := less_at hBX
          have HLS := Lib.hid (less_any w1 lo g n cap a i L' H.out hqn hin hn hc hm)
          go_wp2_with fail
          refine HLS.out.mono ?_
          rintro e w3 ⟨rfl, hb3⟩
          have HCV1 := Lib.hid (@cvlt_yes (cvAt L' a) (cvAt L' i))
          have HCV0 := Lib.hid (@cvlt_no (cvAt L' a) (cvAt L' i))
          generalize cvlt (cvAt L' a) (cvAt L' i) = t at *
          have H3 := Lib.hid (H.out.keep hb3)
          have G3 : Hid (w.grownBy w3 (some g)) := Lib.hid (G.out.trans (below_grownBy hb3))
          have hBX3 : w3.cell? ⟨B, 0, none⟩ = some (.slice (some ⟨g, 0, none⟩) n cap) := (hb3.cell (p := ⟨B, 0, none⟩) (World.block_lt_of_cell? _ _ hBX)).trans hBX
          have hms := swap_at hBX3
          clear hb3 HLS hml hBX H G
          cases t
          · have HH := Lib.hid (U.out.end1 HMIN.out (HCV0.out rfl))
            clear HCV0 HCV1 hms HMIN U
            go_wp2_with fail
            go_ret
            exact ⟨⟨_, rfl⟩, L', H3.out, HH.out, M.out, AB.out, G3.out⟩
          · have hlt := HCV1.out rfl
            have HU := Lib.hid (U.out.step hq0 hqm hqp HMIN.out hlt)
            have HSW := Lib.hid (swap_any w3 lo g n cap i a L' H3.out hin hqn hn hc hm)
            have HM : Hid (∀ y, y ∈ swp L' i a ↔ y ∈ L) := Lib.hid fun y => (mem_swp (by rw [H3.out.1]; exact hin) (by rw [H3.out.1]; exact hqn) y).trans (M.out y)
            have HAB : Hid (∀ k, m ≤ k → cvAt (swp L' i a) k = cvAt L k) := Lib.hid fun k hk => by
              rw [swp_at (by rw [H3.out.1]; exact hin) (by rw [H3.out.1]; exact hqn), if_neg (by omega), if_neg (by omega)]; exact AB.out k hk
            clear hlt HCV0 HCV1 HMIN U M AB
            go_wp2_with fail
            refine HSW.out.mono ?_
            rintro e w4 ⟨rfl, h4, hg4⟩
            have H4 := Lib.hid h4; have G4 := Lib.hid (G3.out.trans hg4)
            clear h4 hg4 hms HSW
            go_wp2_with fail
            go_roundw
            case rel => exact ⟨a, _, rfl, by omega, H4, HU, HM, HAB, G4⟩
            case measure => simp [intOf]; omega
        · have HMIN : Hid (∀ k, 0 < k → k < m → (k - 1) / 2 = i → CvLe (cvAt L' b) (cvAt L' k)) := Lib.hid (by
            have := CvLe.of_not (HCV1.out rfl)
            obtain rfl : a = 2 * i + 1 := by omega
            obtain rfl : b = 2 * i + 2 := by omega
            exact child_minR this)
          have hqn := hbn; have hq0 : 0 < b := by omega
          have hqm : b < m := by omega
          have hqp : (b - 1) / 2 = i := by omega
          clear HCV0 HCV1
          have hml := less_at hBX
          have HLS := Lib.hid (less_any w1 lo g n cap b i L' H.out hqn hin hn hc hm)
          go_wp2_with fail
          refine HLS.out.mono ?_
          rintro e w3 ⟨rfl, hb3⟩
          have HCV1 := Lib.hid (@cvlt_yes (cvAt L' b) (cvAt L' i))
          have HCV0 := Lib.hid (@cvlt_no (cvAt L' b) (cvAt L' i))
          generalize cvlt (cvAt L' b) (cvAt L' i) = t at *
          have H3 := Lib.hid (H.out.keep hb3)
          have G3 : Hid (w.grownBy w3 (some g)) := Lib.hid (G.out.trans (below_grownBy hb3))
          have hBX3 : w3.cell? ⟨B, 0, none⟩ = some (.slice (some ⟨g, 0, none⟩) n cap) := (hb3.cell (p := ⟨B, 0, none⟩) (World.block_lt_of_cell? _ _ hBX)).trans hBX
          have hms := swap_at hBX3
          clear hb3 HLS hml hBX H G
          cases t
          · have HH := Lib.hid (U.out.end1 HMIN.out (HCV0.out rfl))
            clear HCV0 HCV1 hms HMIN U
            go_wp2_with fail
            go_ret
            exact ⟨⟨_, rfl⟩, L', H3.out, HH.out, M.out, AB.out, G3.out⟩
          · have hlt := HCV1.out rfl
            have HU := Lib.hid (U.out.step hq0 hqm hqp HMIN.out hlt)
            have HSW := Lib.hid (swap_any w3 lo g n cap i b L' H3.out hin hqn hn hc hm)
            have HM : Hid (∀ y, y ∈ swp L' i b ↔ y ∈ L) := Lib.hid fun y => (mem_swp (by rw [H3.out.1]; exact hin) (by rw [H3.out.1]; exact hqn) y).trans (M.out y)
            have HAB : Hid (∀ k, m ≤ k → cvAt (swp L' i b) k = cvAt L k) := Lib.hid fun k hk => by
              rw [swp_at (by rw [H3.out.1]; exact hin) (by rw [H3.out.1]; exact hqn), if_neg (by omega), if_neg (by omega)]; exact AB.out k hk
            clear hlt HCV0 HCV1 HMIN U M AB
            go_wp2_with fail
            refine HSW.out.mono ?_
            rintro e w4 ⟨rfl, h4, hg4⟩
            have H4 := Lib.hid h4; have G4 := Lib.hid (G3.out.trans hg4)
            clear h4 hg4 hms HSW
            go_wp2_with fail
            go_roundw
            case rel => exact ⟨b, _, rfl, by omega, H4, HU, HM, HAB, G4⟩
            case measure => simp [intOf]; omega
      · have t1 : decide (b < m) = false := by simp; omega
        have HMIN : Hid (∀ k, 0 < k → k < m → (k - 1) / 2 = i → CvLe (cvAt L' a) (cvAt L' k)) := Lib.hid (child_min1' (by omega) (by omega))
        have hqn := han; have hq0 : 0 < a := by omega
        have hqm : a < m := by omega
        have hqp : (a - 1) / 2 = i := by omega
        have hml := less_at hBX
        have HLS := Lib.hid (less_any wr lo g n cap a i L' H.out hqn hin hn hc hm)
        go_wp2_with fail
        refine HLS.out.mono ?_
        rintro e w3 ⟨rfl, hb3⟩
        have HCV1 := Lib.hid (@cvlt_yes (cvAt L' a) (cvAt L' i))
        have HCV0 := Lib.hid (@cvlt_no (cvAt L' a) (cvAt L' i))
        generalize cvlt (cvAt L' a) (cvAt L' i) = t at *
        have H3 := Lib.hid (H.out.keep hb3)
        have G3 : Hid (w.grownBy w3 (some g)) := Lib.hid (G.out.trans (below_grownBy hb3))
        have hBX3 : w3.cell? ⟨B, 0, none⟩ = some (.slice (some ⟨g, 0, none⟩) n cap) := (hb3.cell (p := ⟨B, 0, none⟩) (World.block_lt_of_cell? _ _ hBX)).trans hBX
        have hms := swap_at hBX3
        clear hb3 HLS hml hBX H G
        cases t
        · have HH := Lib.hid (U.out.end1 HMIN.out (HCV0.out rfl))
          clear HCV0 HCV1 hms HMIN U
          go_wp2_with fail
          go_ret
          exact ⟨⟨_, rfl⟩, L', H3.out, HH.out, M.out, AB.out, G3.out⟩
        · have hlt := HCV1.out rfl
          have HU := Lib.hid (U.out.step hq0 hqm hqp HMIN.out hlt)
          have HSW := Lib.hid (swap_any w3 lo g n cap i a L' H3.out hin hqn hn hc hm)
          have HM : Hid (∀ y, y ∈ swp L' i a ↔ y ∈ L) := Lib.hid fun y => (mem_swp (by rw [H3.out.1]; exact hin) (by rw [H3.out.1]; exact hqn) y).trans (M.out y)
          have HAB : Hid (∀ k, m ≤ k → cvAt (swp L' i a) k = cvAt L k) := Lib.hid fun k hk => by
            rw [swp_at (by rw [H3.out.1]; exact hin) (by rw [H3.out.1]; exact hqn), if_neg (by omega), if_neg (by omega)]; exact AB.out k hk
          clear hlt HCV0 HCV1 HMIN U M AB
          go_wp2_with fail
          refine HSW.out.mono ?_
          rintro e w4 ⟨rfl, h4, hg4⟩
          have H4 := Lib.hid h4; have G4 := Lib.hid (G3.out.trans hg4)
          clear h4 hg4 hms HSW
          go_wp2_with fail
          go_roundw
          case rel => exact ⟨a, _, rfl, by omega, H4, HU, HM, HAB, G4⟩
          case measure => simp [intOf]; omega
end Go.Proofs.YtgdggkhdollieaaDoor
