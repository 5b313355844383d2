/-
  Plain facts on the sum of bytes: a changed byte changes it; one byte more leads on from it.
-/
import Derived.Test.YtddhnngaopjjnaaPure
namespace Go.Proofs.Ytddhnngaopjjnaa

theorem sumFrom_inj (ys : List Int) : ∀ s t : Int, (ys.foldl (fun s b => (31 * s + b + 1) % 251) s) % 251 = (ys.foldl (fun s b => (31 * s + b + 1) % 251) t) % 251 → s % 251 = t % 251 := by
  induction ys with
  | nil => intro s t h; exact h
  | cons y ys ih =>
    intro s t h
    have h2 := ih _ _ h
    simp only [] at h2
    generalize hu : 31 * s + y + 1 = u at h2
    generalize hv : 31 * t + y + 1 = v at h2
    omega
/-- The byte that the law puts in the place of x. -/
def bump (x : Int) : Int := (x + 1) % 256
theorem set_split (xs : List Int) (k : Nat) (z : Int) (h : k < xs.length) : xs.set k z = xs.take k ++ z :: xs.drop (k + 1) := by
  rw [List.set_eq_take_append_cons_drop, if_pos h]
theorem get_split (xs : List Int) (k : Nat) (h : k < xs.length) : xs = xs.take k ++ xs.getD k 0 :: xs.drop (k + 1) := by
  have e : xs.getD k 0 = xs[k] := by simp [h]
  rw [e, List.getElem_cons_drop, List.take_append_drop]
theorem bytesOk_set {xs : List Int} {k : Nat} {z : Int} (h : bytesOk xs = true) (hz : 0 ≤ z ∧ z ≤ 255) : bytesOk (xs.set k z) = true := by
  have h1 := bytesOk_rng h
  simp only [bytesOk, Bool.and_eq_true, List.all_eq_true, decide_eq_true_eq] at h ⊢
  refine ⟨by rw [List.length_set]; exact h1.1, fun x hx => ?_⟩
  rcases List.mem_or_eq_of_mem_set hx with h2 | h2
  · exact h.2 x h2
  · subst h2; simp [byteB]; exact hz
theorem checkSum_bump {xs : List Int} {k : Nat} (h : bytesOk xs = true) (hk : k < xs.length) : ¬ checkSum (xs.set k (bump (xs.getD k 0))) = checkSum xs := by
  have hr := (bytesOk_rng h).2 k hk
  have hz : 0 ≤ bump (xs.getD k 0) ∧ bump (xs.getD k 0) ≤ 255 := by unfold bump; omega
  rw [checkSum, checkSum, if_pos (bytesOk_set h hz), if_pos h]
  intro he
  have e1 : sumTo (xs.set k (bump (xs.getD k 0))) = (xs.drop (k + 1)).foldl (fun s b => (31 * s + b + 1) % 251) ((31 * sumTo (xs.take k) + bump (xs.getD k 0) + 1) % 251) := by
    rw [set_split xs k _ hk, sumTo, List.foldl_append, List.foldl_cons]; rfl
  have e2 : sumTo xs = (xs.drop (k + 1)).foldl (fun s b => (31 * s + b + 1) % 251) ((31 * sumTo (xs.take k) + xs.getD k 0 + 1) % 251) := by
    conv => lhs; rw [get_split xs k hk, sumTo, List.foldl_append, List.foldl_cons]
    rfl
  rw [e1, e2] at he
  have h2 := sumFrom_inj _ _ _ (congrArg (· % 251) he)
  unfold bump at h2
  omega
theorem checkSum_more {xs : List Int} (h : bytesOk xs = true) (hl : xs.length ≤ 1999) : checkSum (xs ++ [9]) = (31 * checkSum xs + 10) % 251 := by
  have h9 : bytesOk (xs ++ [9]) = true := by
    simp only [bytesOk, Bool.and_eq_true, List.all_eq_true, decide_eq_true_eq] at h ⊢
    refine ⟨by simp; omega, fun x hx => ?_⟩
    rcases List.mem_append.1 hx with h1 | h1
    · exact h.2 x h1
    · simp at h1; subst h1; rfl
  rw [checkSum, checkSum, if_pos h9, if_pos h, sumTo_snoc]
  congr 1
  omega
theorem checkSum_rng (xs : List Int) : (checkSum xs = -1 ∧ bytesOk xs = false) ∨ (0 ≤ checkSum xs ∧ checkSum xs ≤ 250 ∧ bytesOk xs = true) := by
  unfold checkSum
  split
  · rename_i h; have := sumTo_rng xs; exact .inr ⟨this.1, this.2, h⟩
  · rename_i h; exact .inl ⟨rfl, by simpa using h⟩
end Go.Proofs.Ytddhnngaopjjnaa
