/-
  Plain facts on frames one behind the other: reading them, joining them.
-/
import Derived.Test.YtoolmknnmmecfaaFrameP
namespace Go.Proofs.Ytoolmknnmmecfaa

/-- What has been read behind k frames: the records, the place. -/
def scanTo (xs : List Int) : Nat → List (List Int) × Nat
  | 0 => ([], 0)
  | k + 1 => match frameAt xs (scanTo xs k).2 with
    | none => scanTo xs k
    | some (b, q) => ((scanTo xs k).1 ++ [b], q)
def scan (xs : List Int) : List (List Int) × Nat := scanTo xs xs.length
theorem scanTo_none {xs : List Int} {k : Nat} (h : frameAt xs (scanTo xs k).2 = none) : scanTo xs (k + 1) = scanTo xs k := by rw [scanTo, h]
theorem scanTo_some {xs : List Int} {k : Nat} {b : List Int} {q : Nat} (h : frameAt xs (scanTo xs k).2 = some (b, q)) : scanTo xs (k + 1) = ((scanTo xs k).1 ++ [b], q) := by rw [scanTo, h]
theorem scanTo_stay {xs : List Int} {k : Nat} (h : frameAt xs (scanTo xs k).2 = none) : ∀ j, scanTo xs (k + j) = scanTo xs k := by
  intro j
  induction j with
  | zero => rfl
  | succ j ih => rw [← Nat.add_assoc, scanTo_none (by rw [ih]; exact h), ih]
/-- k frames have been read, and none was missing. -/
def Got (xs : List Int) (k : Nat) : Prop := (scanTo xs k).1.length = k ∧ 2 * k ≤ (scanTo xs k).2 ∧ (scanTo xs k).2 ≤ xs.length
theorem Got.zero (xs : List Int) : Got xs 0 := ⟨rfl, Nat.le_refl _, Nat.zero_le _⟩
theorem Got.succ {xs : List Int} {k : Nat} (h : Got xs k) {b : List Int} {q : Nat} (hf : frameAt xs (scanTo xs k).2 = some (b, q)) : Got xs (k + 1) := by
  have h1 := frameAt_length hf
  unfold Got
  rw [scanTo_some hf]
  simp only [List.length_append, List.length_cons, List.length_nil]
  obtain ⟨a, b, c⟩ := h
  omega
theorem Got.done {xs : List Int} {k : Nat} (h : Got xs k) (hf : frameAt xs (scanTo xs k).2 = none) : scan xs = scanTo xs k := by
  obtain ⟨_, h2, h3⟩ := h
  have : xs.length = k + (xs.length - k) := by omega
  rw [scan, this, scanTo_stay hf]
/-- Where the reading ends. -/
theorem scan_end (xs : List Int) : ∃ k, Got xs k ∧ frameAt xs (scanTo xs k).2 = none ∧ scan xs = scanTo xs k := by
  have key : ∀ n k, Got xs k → xs.length - k = n → ∃ k, Got xs k ∧ frameAt xs (scanTo xs k).2 = none ∧ scan xs = scanTo xs k := by
    intro n
    induction n with
    | zero =>
      intro k hg hn
      cases hf : frameAt xs (scanTo xs k).2 with
      | none => exact ⟨k, hg, hf, hg.done hf⟩
      | some x =>
        obtain ⟨b, q⟩ := x
        have h1 := hg.succ hf
        have := h1.2.1; have := h1.2.2; omega
    | succ n ih =>
      intro k hg hn
      cases hf : frameAt xs (scanTo xs k).2 with
      | none => exact ⟨k, hg, hf, hg.done hf⟩
      | some x => obtain ⟨b, q⟩ := x; exact ih (k + 1) (hg.succ hf) (by omega)
  exact key _ 0 (Got.zero xs) rfl
theorem scan_rng (xs : List Int) : (scan xs).2 ≤ xs.length ∧ 2 * (scan xs).1.length ≤ (scan xs).2 := by
  obtain ⟨k, ⟨h1, h2, h3⟩, _, he⟩ := scan_end xs
  rw [he]; omega

/-! Joining. -/
/-- The frames of records, one behind the other. -/
def joinL (bs : List (List Int)) : List Int := bs.flatMap frameOf
def joinOk (bs : List (List Int)) : Bool := bs.all bodyOk && decide ((joinL bs).length ≤ 2000)
theorem joinL_append (cs bs : List (List Int)) : joinL (cs ++ bs) = joinL cs ++ joinL bs := by simp [joinL]
theorem joinL_one (b : List Int) : joinL [b] = frameOf b := by simp [joinL]
theorem frameOf_len {b : List Int} (h : bodyOk b = true) : (frameOf b).length = b.length + 2 := by rw [frameOf, if_pos h]; simp
theorem bodyOk_rng {b : List Int} (h : bodyOk b = true) : 1 ≤ b.length ∧ b.length ≤ 100 ∧ bytesOk b = true := by simpa [bodyOk, and_assoc] using h
theorem getD_append_left' (xs ys : List Int) (i : Nat) (h : i < xs.length) : (xs ++ ys).getD i 0 = xs.getD i 0 := by simp [List.getElem?_append, h]
theorem getD_append_right' (xs ys : List Int) (i : Nat) : (xs ++ ys).getD (xs.length + i) 0 = ys.getD i 0 := by
  have h : ¬ xs.length + i < xs.length := by omega
  simp [List.getElem?_append, h]
/-- A frame that stands behind 'pre' is read there. -/
theorem frameAt_mid {b : List Int} (h : bodyOk b = true) (pre post : List Int) : frameAt (pre ++ (frameOf b ++ post)) pre.length = some (b, pre.length + (frameOf b).length) := by
  obtain ⟨h1, h2, h3⟩ := bodyOk_rng h
  have hfl := frameOf_len h
  have hf : frameOf b = (b.length : Int) :: (b ++ [sumTo b]) := by rw [frameOf, if_pos h]
  have e0 : (pre ++ (frameOf b ++ post)).getD pre.length 0 = (b.length : Int) := by
    have := getD_append_right' pre (frameOf b ++ post) 0
    rw [Nat.add_zero] at this; rw [this, hf]; rfl
  have e1 : (pre ++ (frameOf b ++ post)).getD (pre.length + b.length + 1) 0 = sumTo b := by
    rw [Nat.add_assoc, getD_append_right', hf]
    simp
  have e2 : partOf (pre ++ (frameOf b ++ post)) (pre.length + 1) b.length = b := by
    rw [partOf, List.drop_append, List.drop_of_length_le (by omega), List.nil_append, show pre.length + 1 - pre.length = 1 from by omega, hf]
    simp [List.append_assoc]
  have hb : frameB (pre ++ (frameOf b ++ post)) pre.length = true := by
    simp only [frameB, e0, Int.toNat_natCast, e1, e2, Bool.and_eq_true, decide_eq_true_eq]
    refine ⟨⟨⟨by omega, by omega⟩, ?_⟩, trivial⟩
    simp only [List.length_append, hfl]; omega
  rw [frameAt, if_pos hb, e0, Int.toNat_natCast, e2, hfl]
  rfl
theorem scanTo_join (bs : List (List Int)) (h : ∀ b ∈ bs, bodyOk b = true) : ∀ k, k ≤ bs.length → scanTo (joinL bs) k = (bs.take k, (joinL (bs.take k)).length) := by
  intro k
  induction k with
  | zero => intro _; simp [scanTo, joinL]
  | succ k ih =>
    intro hk
    have ih := ih (by omega)
    have hs : bs = bs.take k ++ (bs[k] :: bs.drop (k + 1)) := by rw [List.getElem_cons_drop, List.take_append_drop]
    have hj : joinL bs = joinL (bs.take k) ++ (frameOf bs[k] ++ joinL (bs.drop (k + 1))) := by
      conv => lhs; rw [hs]
      rw [joinL_append]; congr 1
    have hf : frameAt (joinL bs) (scanTo (joinL bs) k).2 = some (bs[k], (joinL (bs.take k)).length + (frameOf bs[k]).length) := by
      rw [ih, hj]; exact frameAt_mid (h _ (List.getElem_mem _)) _ _
    rw [scanTo_some hf, ih, List.take_succ_eq_append_getElem (by omega), joinL_append, joinL_one, List.length_append]
theorem frameAt_end {xs : List Int} {p : Nat} (h : xs.length ≤ p) : frameAt xs p = none := by
  rw [frameAt, if_neg (by rw [frameB_end h]; decide)]
/-- Joined records are read again. -/
theorem scan_join (bs : List (List Int)) (h : ∀ b ∈ bs, bodyOk b = true) : scan (joinL bs) = (bs, (joinL bs).length) := by
  have h1 := scanTo_join bs h bs.length (Nat.le_refl _)
  rw [List.take_of_length_le (Nat.le_refl _)] at h1
  have hl : bs.length ≤ (joinL bs).length := by
    clear h1
    induction bs with
    | nil => simp
    | cons b bs ih =>
      have := ih fun x hx => h x (List.mem_cons_of_mem _ hx)
      have h2 := frameOf_len (h b (List.mem_cons_self ..))
      simp only [joinL, List.flatMap_cons, List.length_append, List.length_cons] at *
      omega
  have hst := scanTo_stay (xs := joinL bs) (k := bs.length) (by rw [h1]; exact frameAt_end (Nat.le_refl _)) ((joinL bs).length - bs.length)
  rw [scan, show (joinL bs).length = bs.length + ((joinL bs).length - bs.length) from by omega, hst, h1]
  congr 1; omega
/-- What was read is a frame. -/
theorem frameAt_frame {xs : List Int} (hx : bytesOk xs = true) {p : Nat} {b : List Int} {q : Nat} (h : frameAt xs p = some (b, q)) : bodyOk b = true ∧ xs.take q = xs.take p ++ frameOf b := by
  have hl := frameAt_length h
  unfold frameAt at h
  split at h
  · rename_i hb
    obtain ⟨h1, h2, h3, h4⟩ := frameB_lt hb
    simp only [Option.some.injEq, Prod.mk.injEq] at h
    obtain ⟨rfl, rfl⟩ := h
    have hm : (xs.getD p 0).toNat = (partOf xs (p + 1) (xs.getD p 0).toNat).length := (partOf_length _ _ _ (by omega)).symm
    have hok : bodyOk (partOf xs (p + 1) (xs.getD p 0).toNat) = true := by
      simp only [bodyOk, Bool.and_eq_true, decide_eq_true_eq]
      exact ⟨⟨by omega, by omega⟩, partOf_ok hx _ _⟩
    refine ⟨hok, ?_⟩
    rw [frameOf, if_pos hok]
    have hn : ((partOf xs (p + 1) (xs.getD p 0).toNat).length : Int) = xs.getD p 0 := by omega
    rw [hn, ← h4]
    generalize hmm : (xs.getD p 0).toNat = m at *
    have ep : xs.getD p 0 = xs[p] := by simp [show p < xs.length by omega]
    have ee : xs.getD (p + m + 1) 0 = xs[p + m + 1] := by simp [h3]
    rw [ep, ee, partOf]
    have t1 : xs.take (p + m + 2) = xs.take (p + m + 1) ++ [xs[p + m + 1]] := by rw [show p + m + 2 = (p + m + 1) + 1 from rfl, List.take_succ_eq_append_getElem (by omega)]
    have t2 : xs.take (p + m + 1) = xs.take (p + 1) ++ (xs.drop (p + 1)).take m := by
      rw [show p + m + 1 = (p + 1) + m from by omega, List.take_add]
    have t3 : xs.take (p + 1) = xs.take p ++ [xs[p]] := List.take_succ_eq_append_getElem (by omega)
    rw [t1, t2, t3, List.append_assoc, List.append_assoc]; rfl
  · cases h
theorem scanTo_joins {xs : List Int} (hx : bytesOk xs = true) : ∀ k, (∀ b ∈ (scanTo xs k).1, bodyOk b = true) ∧ joinL (scanTo xs k).1 = xs.take (scanTo xs k).2 := by
  intro k
  induction k with
  | zero => simp [scanTo, joinL]
  | succ k ih =>
    cases hf : frameAt xs (scanTo xs k).2 with
    | none => rw [scanTo_none hf]; exact ih
    | some x =>
      obtain ⟨b, q⟩ := x
      obtain ⟨h1, h2⟩ := frameAt_frame hx hf
      rw [scanTo_some hf]
      refine ⟨fun c hc => ?_, ?_⟩
      · rcases List.mem_append.1 hc with h | h
        · exact ih.1 c h
        · simp at h; subst h; exact h1
      · rw [joinL_append, joinL_one, ih.2, h2]
/-- What was read joins to the bytes that it took. -/
theorem scan_joins {xs : List Int} (hx : bytesOk xs = true) : (∀ b ∈ (scan xs).1, bodyOk b = true) ∧ joinL (scan xs).1 = xs.take (scan xs).2 := scanTo_joins hx _
theorem scan_stops (xs : List Int) : frameAt xs (scan xs).2 = none := by
  obtain ⟨k, _, h, he⟩ := scan_end xs
  rw [he]; exact h
/-- Of a beginning the same frames are read. -/
theorem frameAt_prefix {xs ys : List Int} {p : Nat} {b : List Int} {q : Nat} (h : frameAt xs p = some (b, q)) : frameAt (xs ++ ys) p = some (b, q) := by
  have hl := frameAt_length h
  unfold frameAt at h
  split at h
  · rename_i hb
    obtain ⟨h1, h2, h3, h4⟩ := frameB_lt hb
    have e0 : (xs ++ ys).getD p 0 = xs.getD p 0 := getD_append_left' _ _ _ (by omega)
    have e1 : (xs ++ ys).getD (p + (xs.getD p 0).toNat + 1) 0 = xs.getD (p + (xs.getD p 0).toNat + 1) 0 := getD_append_left' _ _ _ h3
    have e2 : partOf (xs ++ ys) (p + 1) (xs.getD p 0).toNat = partOf xs (p + 1) (xs.getD p 0).toNat := by
      rw [partOf, partOf, List.drop_append_of_le_length (by omega), List.take_append_of_le_length (by rw [List.length_drop]; omega)]
    have hb' : frameB (xs ++ ys) p = true := by
      simp only [frameB, e0, e1, e2, Bool.and_eq_true, decide_eq_true_eq]
      exact ⟨⟨⟨h1, h2⟩, by rw [List.length_append]; omega⟩, h4⟩
    rw [frameAt, if_pos hb', e0, e2]; exact h
  · cases h
theorem scanTo_prefix (xs ys : List Int) : ∀ k, (∀ j, j < k → (frameAt xs (scanTo xs j).2).isSome = true) → scanTo (xs ++ ys) k = scanTo xs k := by
  intro k
  induction k with
  | zero => intro _; rfl
  | succ k ih =>
    intro h
    have ih := ih fun j hj => h j (by omega)
    have hk := h k (by omega)
    cases hf : frameAt xs (scanTo xs k).2 with
    | none => rw [hf] at hk; cases hk
    | some x =>
      obtain ⟨b, q⟩ := x
      rw [scanTo_some hf, scanTo_some (by rw [ih]; exact frameAt_prefix hf), ih]
theorem Got.all {xs : List Int} : ∀ {k : Nat}, Got xs k → ∀ j, j < k → (frameAt xs (scanTo xs j).2).isSome = true := by
  intro k
  induction k with
  | zero => intro _ j h; omega
  | succ k ih =>
    intro hg j hj
    have hlen : ∀ k, (scanTo xs k).1.length ≤ k := by
      intro k
      induction k with
      | zero => simp [scanTo]
      | succ k ih2 =>
        rw [scanTo]; split
        · omega
        · simp; omega
    cases hf : frameAt xs (scanTo xs k).2 with
    | none =>
      have := hg.1
      rw [scanTo_none hf] at this
      have := hlen k
      omega
    | some x =>
      obtain ⟨b, q⟩ := x
      have hgk : Got xs k := by
        have h1 := hg.1
        rw [scanTo_some hf] at h1
        simp only [List.length_append, List.length_cons, List.length_nil] at h1
        have hk : (scanTo xs k).1.length = k := by omega
        refine ⟨hk, ?_⟩
        clear ih hf hg h1
        have aux : ∀ k, 2 * (scanTo xs k).1.length ≤ (scanTo xs k).2 ∧ (scanTo xs k).2 ≤ xs.length := by
          intro k
          induction k with
          | zero => exact ⟨Nat.le_refl _, Nat.zero_le _⟩
          | succ k ih3 =>
            cases hf : frameAt xs (scanTo xs k).2 with
            | none => rw [scanTo_none hf]; exact ih3
            | some x =>
              obtain ⟨b, q⟩ := x
              have := frameAt_length hf
              rw [scanTo_some hf]
              simp only [List.length_append, List.length_cons, List.length_nil]
              omega
        have := aux k
        rw [hk] at this; exact this
      by_cases hjk : j < k
      · exact ih hgk j hjk
      · obtain rfl : j = k := by omega
        rw [hf]; rfl
/-- The records of a beginning are a beginning of the records. -/
theorem scan_prefix (xs ys : List Int) : (scan xs).1 = (scan (xs ++ ys)).1.take (scan xs).1.length ∧ (scan xs).1.length ≤ (scan (xs ++ ys)).1.length := by
  obtain ⟨k, hg, _, he⟩ := scan_end xs
  have h1 := scanTo_prefix xs ys k hg.all
  have mono : ∀ j, (scanTo (xs ++ ys) k).1 <+: (scanTo (xs ++ ys) (k + j)).1 := by
    intro j
    induction j with
    | zero => exact List.prefix_refl _
    | succ j ih =>
      rw [← Nat.add_assoc]
      cases hf : frameAt (xs ++ ys) (scanTo (xs ++ ys) (k + j)).2 with
      | none => rw [scanTo_none hf]; exact ih
      | some x => obtain ⟨b, q⟩ := x; rw [scanTo_some hf]; exact ih.trans (List.prefix_append _ _)
  have hk : k ≤ (xs ++ ys).length := by have := hg.2.1; have := hg.2.2; rw [List.length_append]; omega
  have h2 := mono ((xs ++ ys).length - k)
  rw [show k + ((xs ++ ys).length - k) = (xs ++ ys).length from by omega, h1, ← he] at h2
  exact ⟨(List.prefix_iff_eq_take.1 h2), h2.length_le⟩
/-- The bytes that were taken hold the same records. -/
theorem scan_taken {xs : List Int} (hx : bytesOk xs = true) : scan (xs.take (scan xs).2) = scan xs := by
  obtain ⟨h1, h2⟩ := scan_joins hx
  rw [← h2, scan_join _ h1, h2, List.length_take, Nat.min_eq_left (scan_rng xs).1]
end Go.Proofs.Ytoolmknnmmecfaa
