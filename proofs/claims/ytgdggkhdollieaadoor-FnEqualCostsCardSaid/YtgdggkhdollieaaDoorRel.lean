/-
  A region that draws its order, walked operation by operation: what each operation hands back is said by a property of its value and the world, which the other operations leave true.
-/
import Derived.Test.YtgdggkhdollieaaDoorLib
import Derived.Orders
namespace Go.Proofs.YtgdggkhdollieaaDoor
open Go.RowKit
set_option linter.unusedVariables false

def upd (x : Nat → Value) (d : Nat) (v : Value) : Nat → Value := fun k => if k = d then v else x k
/-- f holds of every operation (its number ahead). -/
def allOps (f : Nat → Oper → Prop) : Nat → List Oper → Prop
  | _, [] => True
  | k, o :: l => f k o ∧ allOps f (k + 1) l
theorem allOps_at {f : Nat → Oper → Prop} : ∀ {l : List Oper} {k i : Nat} {o : Oper}, allOps f k l → l[i]? = some o → f (k + i) o
  | [], _, _, _, _, h => by simp at h
  | x :: l, k, 0, o, h, hi => by simp at hi; subst hi; exact h.1
  | x :: l, k, i + 1, o, h, hi => by
    have := allOps_at h.2 (by simpa using hi)
    rwa [Nat.add_assoc, Nat.add_comm 1 i] at this
/-- The operations that an operation waits for come ahead of it in the text. -/
def backB (ops : List Oper) : Bool := (List.range ops.length).all fun i => match ops[i]? with
  | some o => o.after.all fun e => !Region.binds .any e || decide (e.on < i)
  | none => true
def setL (L : Nat → Bool) (i : Nat) : Nat → Bool := fun k => if k = i then true else L k
/-- The property of operation i's value. -/
def Holds (ops : List Oper) (T : Nat → Value → World → Prop) (i : Nat) (x : Nat → Value) (w : World) : Prop :=
  ∀ o, ops[i]? = some o → match o.dst with | some d => T i (x d) w | none => True
/-- What is asked of operation i. -/
def OpRel (P : Program) (ops : List Oper) (Q : Exit → Act → World → Prop) (mk : (Nat → Value) → Act) (G : Nat → (Nat → Bool) → World → Prop) (R : Nat → World → World → Prop) (T : Nat → Value → World → Prop) (i : Nat) (o : Oper) : Prop :=
  ∀ n L x w, n ≤ ops.length → L i = false → G n L w → (∀ j, (o.after.toList.any fun e => Region.binds .any e && e.on == j) = true → L j = true ∧ Holds ops T j x w) →
    if Region.wanted o (yielded ops.toArray (mk x).tmps) = true then o.wp P (mk x) w (fun a' w' => ∃ v, a' = (mk x).put o.dst v ∧ G (n + 1) (setL L i) w' ∧ R i w w' ∧ T i v w') Q
    else T i undef w ∧ G (n + 1) (setL L i) w
def PutRel (mk : (Nat → Value) → Act) (i : Nat) (o : Oper) : Prop :=
  match o.dst with
  | some d => ∀ x v, (mk x).put (some d) v = mk (upd x d v)
  | none => True
def dstB (ops : List Oper) : Bool := (List.range ops.length).all fun i => (List.range ops.length).all fun j => decide (i = j) || match ops[i]?, ops[j]? with
  | some a, some b => match a.dst, b.dst with | some c, some d => decide (c ≠ d) | _, _ => true
  | _, _ => true

section
variable {P : Program} {ops : List Oper} {Q : Exit → Act → World → Prop} {mk : (Nat → Value) → Act} {G : Nat → (Nat → Bool) → World → Prop} {R : Nat → World → World → Prop} {T : Nat → Value → World → Prop}
theorem dst_ne (h : dstB ops = true) {i j : Nat} {a b : Oper} (hi : ops[i]? = some a) (hj : ops[j]? = some b) (hij : i ≠ j) {c d : Nat} (hc : a.dst = some c) (hd : b.dst = some d) : c ≠ d := by
  simp only [dstB, List.all_eq_true, List.mem_range] at h
  have h1 := h i (List.getElem?_eq_some_iff.1 hi).1 j (List.getElem?_eq_some_iff.1 hj).1
  rw [hi, hj] at h1
  simp only [hc, hd, hij, decide_false, Bool.false_or, decide_eq_true_eq] at h1
  exact h1
theorem holds_put (hd : dstB ops = true) (hT : ∀ i j v w w', i ≠ j → R j w w' → T i v w → T i v w') {x : Nat → Value} {w w' : World} {i j : Nat} {o : Oper} (hi : ops[i]? = some o) (hij : j ≠ i) {d : Nat} (ho : o.dst = some d) {v : Value} (hr : R i w w') (h : Holds ops T j x w) : Holds ops T j (upd x d v) w' := by
  intro oj hj
  have h1 := h oj hj
  cases hdj : oj.dst with
  | none => trivial
  | some c =>
    simp only [hdj] at h1 ⊢
    have hne := dst_ne hd hj hi hij hdj ho
    simp only [upd, hne, if_false]
    exact hT _ _ _ _ _ hij hr h1
theorem holds_keep (hT : ∀ i j v w w', i ≠ j → R j w w' → T i v w → T i v w') {x : Nat → Value} {w w' : World} {i j : Nat} (hij : j ≠ i) (hr : R i w w') (h : Holds ops T j x w) : Holds ops T j x w' := by
  intro oj hj
  have h1 := h oj hj
  cases hdj : oj.dst with
  | none => trivial
  | some c => simp only [hdj] at h1 ⊢; exact hT _ _ _ _ _ hij hr h1

theorem wpAny_rel (hb : backB ops = true) (hd : dstB ops = true) (hT : ∀ i j v w w', i ≠ j → R j w w' → T i v w → T i v w') (hR : ∀ i w, R i w w) (hput : allOps (PutRel mk) 0 ops) (hop : allOps (OpRel P ops Q mk G R T) 0 ops)
    (hend : ∀ n L x w, n ≤ ops.length → G n L w → (∀ i, i < ops.length → L i = true ∧ Holds ops T i x w) → Q .normal (mk x) w) :
    ∀ (fuel : Nat) (listed : Array Bool) (x : Nat → Value) (w : World) (n : Nat), listed.size = ops.length → n + fuel = ops.length → (listed.toList.countP (· == true)) = n → G n (fun k => listed.getD k false) w → (∀ i, listed.getD i true = true → i < ops.length → Holds ops T i x w) →
      wpAny P .any ops.toArray Q fuel listed (mk x) w := by
  intro fuel
  have hready : ∀ (listed : Array Bool), listed.size = ops.length → Region.ready .any ops.toArray listed = [] → ∀ i, i < ops.length → listed.getD i true = true := by
    intro listed hs hr i
    induction i using Nat.strongRecOn with
    | _ i ih =>
      intro hi
      cases hl : listed.getD i true with
      | true => rfl
      | false =>
        exfalso
        have hmem : i ∈ Region.ready .any ops.toArray listed := by
          unfold Region.ready
          rw [List.mem_filter]
          refine ⟨by simp [hi], ?_⟩
          have ho : ops.toArray[i]? = some ops[i] := by simp [hi]
          simp only [hl, Bool.not_false, Bool.true_and, ho, Option.map_some, Option.getD_some, Array.all_eq_true']
          intro e he
          simp only [backB, List.all_eq_true, List.mem_range] at hb
          have h1 := hb i hi
          rw [List.getElem?_eq_getElem hi] at h1
          simp only [Array.all_eq_true'] at h1
          have h2 := h1 e he
          cases hbe : Region.binds .any e with
          | false => rfl
          | true =>
            rw [hbe] at h2
            simp only [Bool.not_true, Bool.false_or, decide_eq_true_eq] at h2
            have h3 := ih e.on h2 (by omega)
            have h4 : e.on < listed.size := by omega
            simp only [Bool.not_true, Bool.false_or]
            simp only [Array.getD, h4, dif_pos] at h3 ⊢
            exact h3
        rw [hr] at hmem; cases hmem
  induction fuel with
  | zero =>
    intro listed x w n hs hn hc hG hh
    have hall : ∀ b ∈ listed.toList, (b == true) = true := by
      have : listed.toList.countP (· == true) = listed.toList.length := by rw [hc]; simp [hs]; omega
      exact List.countP_eq_length.1 this
    refine ⟨?_, hend n _ x w (by omega) hG fun i hi => ?_⟩
    · rw [List.eq_nil_iff_forall_not_mem]
      intro i hi
      unfold Region.ready at hi
      rw [List.mem_filter] at hi
      obtain ⟨h1, h2⟩ := hi
      simp only [List.mem_range, List.size_toArray] at h1
      have h3 : i < listed.size := by omega
      have h4 := hall listed[i] (by simp)
      simp only [Bool.and_eq_true, Bool.not_eq_true', Array.getD, h3, dif_pos] at h2
      have h5 := h2.1
      simp at h4
      have h6 : listed.getInternal i h3 = listed[i] := rfl
      rw [h6, h4] at h5; cases h5
    · have h3 : i < listed.size := by omega
      have h4 := hall listed[i] (by simp)
      simp at h4
      have h5 : listed.getD i true = true := by simp only [Array.getD, h3, dif_pos]; exact h4
      have h6 : listed.getD i false = true := by simp only [Array.getD, h3, dif_pos]; exact h4
      exact ⟨h6, hh i h5 hi⟩
  | succ fuel ih =>
    intro listed x w n hs hn hc hG hh
    have hft : ∀ i, i < ops.length → listed.getD i true = listed.getD i false := fun i hi => by
      have h3 : i < listed.size := by omega
      simp only [Array.getD, h3, dif_pos]
    refine ⟨fun hr => hend n _ x w (by omega) hG fun i hi => ⟨by have := hready listed hs hr i hi; rw [hft i hi] at this; exact this, hh i (hready listed hs hr i hi) hi⟩, fun i hi => ?_⟩
    unfold Region.ready at hi
    rw [List.mem_filter] at hi
    obtain ⟨h1, h2⟩ := hi
    simp only [List.mem_range, List.size_toArray] at h1
    simp only [Bool.and_eq_true, Bool.not_eq_true'] at h2
    obtain ⟨h2, h3⟩ := h2
    have ho : ops[i]? = some ops[i] := List.getElem?_eq_getElem h1
    have hoa : ops.toArray[i]? = some ops[i] := by simp [h1]
    simp only [hoa, Option.map_some, Option.getD_some, Array.all_eq_true'] at h3
    have hop1 := allOps_at hop ho
    have hput1 := allOps_at hput ho
    rw [Nat.zero_add] at hop1 hput1
    have hcnt : (listed.setIfInBounds i true).toList.countP (· == true) = n + 1 := by
      have hil : i < listed.toList.length := by simp; omega
      have hgi : listed.toList[i] = false := by
        have h4 : i < listed.size := by omega
        simp only [Array.getD, h4, dif_pos] at h2
        simpa using h2
      rw [Array.toList_setIfInBounds, List.countP_set hil, hgi, ← hc]
      have : 0 ≤ listed.toList.countP (· == true) := Nat.zero_le _
      simp
    have step := hop1 n _ x w (by omega) (by rw [← hft i h1]; exact h2) hG (fun j hj => by
      rw [List.any_eq_true] at hj
      obtain ⟨e, he, hej⟩ := hj
      rw [Array.mem_toList_iff] at he
      simp only [Bool.and_eq_true, beq_iff_eq] at hej
      have h4 := h3 e he
      rw [hej.1, hej.2] at h4
      simp only [Bool.not_true, Bool.false_or] at h4
      refine ⟨h4, fun oj hoj => ?_⟩
      have hjl := (List.getElem?_eq_some_iff.1 hoj).1
      refine hh j ?_ hjl oj hoj
      have h5 : j < listed.size := by omega
      simp only [Array.getD, h5, dif_pos] at h4 ⊢
      exact h4)
    have hLs : (fun k => (listed.setIfInBounds i true).getD k false) = setL (fun k => listed.getD k false) i := by
      funext k
      by_cases hk : k = i
      · subst hk; simp [setL, show k < listed.size by omega]
      · simp only [setL, hk, if_false]; exact getD_set_ne false (Ne.symm hk)
    have next : ∀ v w', G (n + 1) (setL (fun k => listed.getD k false) i) w' → R i w w' → T i v w' → wpAny P .any ops.toArray Q fuel (listed.setIfInBounds i true) ((mk x).put ops[i].dst v) w' := by
      intro v w' hG' hR' hT'
      cases hdst : ops[i].dst with
      | none =>
        show wpAny P .any ops.toArray Q fuel (listed.setIfInBounds i true) (mk x) w'
        refine ih _ x w' (n + 1) (by simpa using hs) (by omega) hcnt (by rw [hLs]; exact hG') fun j hj hjl => ?_
        by_cases hji : j = i
        · subst hji
          intro oj hoj
          rw [ho] at hoj; cases hoj
          rw [hdst]; trivial
        · exact holds_keep hT hji hR' (hh j (by rw [getD_set_ne true (Ne.symm hji)] at hj; exact hj) hjl)
      | some d =>
        simp only [PutRel, hdst] at hput1
        rw [hput1 x v]
        refine ih _ _ w' (n + 1) (by simpa using hs) (by omega) hcnt (by rw [hLs]; exact hG') fun j hj hjl => ?_
        by_cases hji : j = i
        · subst hji
          intro oj hoj
          rw [ho] at hoj; cases hoj
          simp only [hdst]
          simpa [upd] using hT'
        · exact holds_put hd hT ho hji hdst hR' (hh j (by rw [getD_set_ne true (Ne.symm hji)] at hj; exact hj) hjl)
    unfold wpOp
    rw [hoa]
    simp only
    split
    · rename_i hw
      rw [if_pos hw] at step
      exact .inl (Oper.wp_mono (fun a' w' ⟨v, e1, e2, e3, e4⟩ => by rw [e1]; exact next v w' e2 e3 e4) step)
    · rename_i hw
      rw [if_neg hw] at step
      exact next undef w step.2 (hR i w) step.1
end
/-- A region that draws its order. -/
theorem wp_region_rel {P : Program} {id : Nat} {l : List Oper} {Q : Exit → Act → World → Prop} {w : World} (mk : (Nat → Value) → Act) (x0 : Nat → Value) (G : Nat → (Nat → Bool) → World → Prop) (R : Nat → World → World → Prop) (T : Nat → Value → World → Prop)
    (hm : P.follows .mixedOrders = true) (hb : backB l = true) (hd : dstB l = true) (hT : ∀ i j v w w', i ≠ j → R j w w' → T i v w → T i v w') (hR : ∀ i w, R i w w) (hG : G 0 (fun _ => false) w.drew)
    (hput : allOps (PutRel mk) 0 l) (hop : allOps (OpRel P l Q mk G R T) 0 l) (hend : ∀ n L x w, n ≤ l.length → G n L w → (∀ i, i < l.length → L i = true ∧ Holds l T i x w) → Q .normal (mk x) w) : (Code.region id l.toArray true).wp P Q (mk x0) w := by
  refine wp_region_any hm ?_
  refine wpAny_rel hb hd hT hR hput hop hend _ _ x0 _ 0 (by simp) (by simp) ?_ ?_ fun i hi hl => ?_
  · simp [List.countP_replicate]
  · have : (fun k => (Array.replicate l.toArray.size false).getD k false) = fun _ => false := by
      funext k
      by_cases hk : k < l.length <;> simp [Array.getD, hk]
    rw [this]; exact hG
  · simp [hl] at hi

/-- The same at any state: 'mk' names the slots that matter, the others are x's. -/
theorem wp_region_relA {P : Program} {id : Nat} {l : List Oper} {Q : Exit → Act → World → Prop} {w : World} {a : Act} (mk : (Nat → Value) → Act) (G : Nat → (Nat → Bool) → World → Prop) (R : Nat → World → World → Prop) (T : Nat → Value → World → Prop)
    (hmk : mk (fun k => a.tmps.getD k undef) = a)
    (hm : P.follows .mixedOrders = true) (hb : backB l = true) (hd : dstB l = true) (hT : ∀ i j v w w', i ≠ j → R j w w' → T i v w → T i v w') (hR : ∀ i w, R i w w) (hG : G 0 (fun _ => false) w.drew)
    (hput : allOps (PutRel mk) 0 l) (hop : allOps (OpRel P l Q mk G R T) 0 l) (hend : ∀ n L x w, n ≤ l.length → G n L w → (∀ i, i < l.length → L i = true ∧ Holds l T i x w) → Q .normal (mk x) w) : (Code.region id l.toArray true).wp P Q a w := by
  have h := wp_region_rel (id := id) (P := P) mk (fun k => a.tmps.getD k undef) G R T hm hb hd hT hR hG hput hop hend
  rw [hmk] at h
  exact h

theorem OpRel.plain {P : Program} {ops : List Oper} {Q : Exit → Act → World → Prop} {mk : (Nat → Value) → Act} {G : Nat → (Nat → Bool) → World → Prop} {R : Nat → World → World → Prop} {T : Nat → Value → World → Prop} {i : Nat} {o : Oper} (hg : o.guard = none)
    (h : ∀ n L x w (K : Act → World → Prop), n ≤ ops.length → L i = false → G n L w → (∀ j, (o.after.toList.any fun e => Region.binds .any e && e.on == j) = true → L j = true ∧ Holds ops T j x w) →
      (∀ v w', G (n + 1) (setL L i) w' → R i w w' → T i v w' → K ((mk x).put o.dst v) w') → o.wp P (mk x) w K Q) : OpRel P ops Q mk G R T i o := by
  intro n L x w hn hL hG hdep
  rw [if_pos (by unfold Region.wanted; rw [hg])]
  exact h n L x w _ hn hL hG hdep fun v w' h1 h2 h3 => ⟨v, rfl, h1, h2, h3⟩

/-! Properties that stay true. -/
def Stab (R : World → World → Prop) (t : Value → World → Prop) : Prop := ∀ v w w', R w w' → t v w → t v w'
def tru : Value → World → Prop := fun _ _ => True
def cst (c : Value) : Value → World → Prop := fun v _ => v = c
def pur (p : Value → Prop) : Value → World → Prop := fun v _ => p v
theorem stab_tru (R : World → World → Prop) : Stab R tru := fun _ _ _ _ h => h
theorem stab_cst (R : World → World → Prop) (c : Value) : Stab R (cst c) := fun _ _ _ _ h => h
theorem stab_pur (R : World → World → Prop) (p : Value → Prop) : Stab R (pur p) := fun _ _ _ _ h => h
/-- A literal list of ints in a block beyond r. -/
def litI (r n : Nat) (p : List Int → Prop) : Value → World → Prop := fun v w => ∃ (b : Nat) (cs : List Int), v = .slice (some ⟨b, 0, none⟩) n n ∧ w.heap[b]? = some (.cells (ints cs).toArray 3 (0, 0)) ∧ r < b ∧ cs.length = n ∧ p cs
theorem stab_litI (r n : Nat) (p : List Int → Prop) : Stab (Chg r (r + 1)) (litI r n p) := fun v w w' hr ⟨b, cs, h1, h2, h3, h4, h5⟩ => ⟨b, cs, h1, (hr.block b (box_lt h2) (by omega)).trans h2, h3, h4, h5⟩
/-- The address of an element of it. -/
def litA (r n : Nat) (p : List Int → Prop) : Value → World → Prop := fun v w => ∃ (b j : Nat) (cs : List Int), j < n ∧ v = .pointer (some ⟨b, j, none⟩) ∧ w.heap[b]? = some (.cells (ints cs).toArray 3 (0, 0)) ∧ r < b ∧ cs.length = n ∧ p cs
theorem stab_litA (r n : Nat) (p : List Int → Prop) : Stab (Chg r (r + 1)) (litA r n p) := fun v w w' hr ⟨b, j, cs, h0, h1, h2, h3, h4, h5⟩ => ⟨b, j, cs, h0, h1, (hr.block b (box_lt h2) (by omega)).trans h2, h3, h4, h5⟩
def intP (p : Int → Prop) : Value → World → Prop := pur fun v => ∃ c : Int, v = .int .i64 c ∧ p c
theorem stab_intP (R : World → World → Prop) (p : Int → Prop) : Stab R (intP p) := stab_pur _ _
def Tl (ts : List (Value → World → Prop)) : Nat → Value → World → Prop := fun i => ts.getD i tru
/-- All properties stay true at all operations. -/
theorem stab_Tl {R : World → World → Prop} {ts : List (Value → World → Prop)} (h : ∀ t ∈ ts, Stab R t) : ∀ i (j : Nat) v w w', i ≠ j → R w w' → Tl ts i v w → Tl ts i v w' := by
  intro i j v w w' _
  revert v w w'
  by_cases hi : i < ts.length
  · have : Tl ts i = ts[i] := by simp [Tl, hi]
    rw [this]; exact h _ (List.getElem_mem hi)
  · have : Tl ts i = tru := by simp [Tl, List.getElem?_eq_none (Nat.le_of_not_lt hi)]
    rw [this]; exact stab_tru R
theorem lit_cell {w : World} {b : Nat} {cs : List Int} (h : w.heap[b]? = some (.cells (ints cs).toArray 3 (0, 0))) {j : Nat} (hj : j < cs.length) : w.cell? ⟨b, j, none⟩ = some (.int .i64 (cs.getD j 0)) :=
  box_cell h j _ (by rw [List.getElem?_toArray]; exact ints_get cs j hj)
end Go.Proofs.YtgdggkhdollieaaDoor
