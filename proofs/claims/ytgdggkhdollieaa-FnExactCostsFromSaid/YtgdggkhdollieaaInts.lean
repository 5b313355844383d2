/-
  What the law's helpers on lists of ints do: compare, copy, mark, look for the marks, count.
-/
import Derived.Test.YtgdggkhdollieaaChecked
import Derived.Test.YtgdggkhdollieaaLib
namespace Go.Proofs.Ytgdggkhdollieaa
open Go.RowKit

theorem infoInt : (Try.prog.info? 3).map (fun i => (i.zero, i.size, i.bytes)) = some (some (.int .i64 0), 1, 8) := by kernel_rfl

/-- A list of ints is handed back in new memory; all that was there stays. -/
def RetI (w : World) (xs : List Int) (e : Ending) (w' : World) : Prop :=
  ∃ v, e = .returned v ∧ Ow w.heap.size w'.heap.size w' 3 1 v xs.length (ints xs) ∧ Below w.heap.size w w'

/-- A list of ints that is read; one that is owned; no condition; how many marks it takes; its marks. -/
abbrev RdIntS (w : World) (v : Value) (xs : List Int) : Prop := Rd w 1 v xs.length (ints xs)
abbrev OwIntS (lo hi : Nat) (w : World) (v : Value) (xs : List Int) : Prop := Ow lo hi w 3 1 v xs.length (ints xs)
def WfIntS (xs : List Int) : Prop := ∀ x ∈ xs, In64 x
def cntIntS (xs : List Int) : Nat := xs.length
/-- m, m + 1, .. -/
def seqI (m : Int) (n : Nat) : List Int := (List.range n).map fun (i : Nat) => m + (i : Int)
theorem seqI_length (m : Int) (n : Nat) : (seqI m n).length = n := by simp [seqI]
theorem seqI_succ (m : Int) (n : Nat) : seqI m (n + 1) = seqI m n ++ [m + (n : Int)] := by simp [seqI, List.range_succ]
theorem seqI_getD (m : Int) (n k : Nat) (h : k < n) : (seqI m n).getD k 0 = m + (k : Int) := by simp [seqI, h]
def MkIntS (m : Int) (xs ys : List Int) : Prop := ys = seqI m xs.length

set_option maxHeartbeats 400000 in
theorem eqIntS_same (w : World) (va vb : Value) (xs : List Int) (ha : Rd w 1 va xs.length (ints xs)) (hb : Rd w 1 vb xs.length (ints xs)) :
    Calls Try.prog 45 #[va, vb] w fun e w' => e = .returned (.bool true) ∧ Below w.heap.size w w' := by
  obtain ⟨a, ca, rfl, hca, hma, Ha⟩ := ha.int
  obtain ⟨b, cb, rfl, hcb, hmb, Hb⟩ := hb.int
  clear ha hb
  generalize hn : xs.length = n at *
  have Hn := Lib.hid hn; clear hn
  go_enter Try.func45, Try.ntmps45
  go_wp2_with fail
  go_loopw [5] (fun i wr => ∃ k : Nat, k ≤ n ∧ i = .int .i64 k ∧ Below w.heap.size w wr) (fun i _ => n - (intOf i).toNat)
  case atStart => exact ⟨0, Nat.zero_le _, rfl, Below.refl _ _⟩
  case round =>
    obtain ⟨k, hk, rfl, hbel⟩ := hrel
    by_cases hlt : k < n
    · obtain ⟨b1, o1, rfl, hb1, hc1⟩ := Ha.out k hlt
      obtain ⟨b2, o2, rfl, hb2, hc2⟩ := Hb.out k hlt
      have h1 := (hbel.cell (p := ⟨b1, o1 + k, none⟩) hb1).trans hc1
      have h2 := (hbel.cell (p := ⟨b2, o2 + k, none⟩) hb2).trans hc2
      clear hc1 hc2 Ha Hb
      go_wp2_with fail
      go_quiet (fail)
      go_wp2_with fail
      go_roundw
      case rel => exact ⟨k + 1, by omega, by go_num, hbel.drewN' _⟩
      case measure => simp [intOf]; omega
    · go_wp2_with fail
      go_ret
      exact ⟨rfl, hbel⟩

set_option maxHeartbeats 400000 in
theorem heldIntS_any (w : World) (va : Value) (m : Int) (xs ys : List Int) (hmk : MkIntS m xs ys) (ha : RdIntS w va ys) (hm : 0 ≤ m) (hn : m + (cntIntS xs : Int) ≤ 9223372036854775000) :
    Calls Try.prog 48 #[va, .int .i64 m] w fun e w' => e = .returned (.int .i64 (m + (cntIntS xs : Int))) ∧ Below w.heap.size w w' := by
  obtain ⟨a, ca, rfl, hca, hma, Ha⟩ := ha.int
  unfold MkIntS at hmk
  subst hmk
  unfold cntIntS at *
  rw [seqI_length] at *
  generalize xs.length = n at *
  clear ha
  go_enter Try.func48, Try.ntmps48
  go_wp2_with fail
  go_loopw [1, 5] (fun q i wr => ∃ k : Nat, k ≤ n ∧ i = .int .i64 k ∧ q = .int .i64 (m + (k : Int)) ∧ Below w.heap.size w wr) (fun _ i _ => n - (intOf i).toNat)
  case atStart => exact ⟨0, Nat.zero_le _, rfl, by simp, Below.refl _ _⟩
  case round =>
    obtain ⟨k, hk, rfl, rfl, hbel⟩ := hrel
    by_cases hlt : k < n
    · obtain ⟨b1, o1, rfl, hb1, hc1⟩ := Ha.out k hlt
      have h1 := (hbel.cell (p := ⟨b1, o1 + k, none⟩) hb1).trans hc1
      rw [seqI_getD m n k hlt] at h1
      clear hc1 Ha
      go_wp2_with fail
      go_roundw
      case rel => exact ⟨k + 1, by omega, by go_num, by go_num, hbel⟩
      case measure => simp [intOf]; omega
    · obtain rfl : k = n := by omega
      go_wp2_with fail
      go_ret
      exact ⟨rfl, hbel⟩

set_option maxHeartbeats 400000 in
theorem toIntS_any (w : World) (va : Value) (xs : List Int) (ha : Rd w 1 va xs.length (ints xs)) (hs : xs.length ≤ 1099511627776) :
    Calls Try.prog 49 #[va] w (RetI w xs) := by
  obtain ⟨a, ca, rfl, hca, hma, Ha⟩ := ha.int
  clear ha
  generalize hn : xs.length = n at *
  have Hn := Lib.hid hn; clear hn
  obtain ⟨i0, hi, hz0, hz1, hz2⟩ := info_parts infoInt
  have Hi := Lib.hid hi; have Hz0 := Lib.hid hz0; have Hz1 := Lib.hid hz1; have Hz2 := Lib.hid hz2; clear hi hz0 hz1 hz2
  go_enter Try.func49, Try.ntmps49
  go_wp2_with (at_make; refine wpList_make_full _ rfl _ _ 23 rfl w.heap.size 3 i0 (.int .i64 0) 1 Try.underlying23 Hi.out Hz0.out Hz1.out _ _ _ _ n rfl rfl rfl rfl (by rw [Hz2.out]; omega) (by unfold maxLen; omega) (Nat.le_refl _) ?_)
  intro w1 hown hgrow
  have HO := Lib.hid hown; have HG := Lib.hid hgrow; clear hown hgrow
  go_wp2_with fail
  go_loopw [4] (fun i wr => ∃ k : Nat, k ≤ n ∧ i = .int .i64 k ∧ wr.ownsRow w.heap.size 3 1 (.slice (some ⟨w.heap.size, 0, none⟩) n n) n (fillI n k xs) ∧ Below w.heap.size w wr) (fun i _ => n - (intOf i).toNat)
  case atStart =>
    refine ⟨0, Nat.zero_le _, rfl, ?_, (Below.refl _ _).grown HG.out (Nat.le_refl _) (by intro k hk; cases hk)⟩
    have h := HO.out
    rw [toList_madeCells_one] at h
    rw [fillI_start]; exact h
  case round =>
    obtain ⟨k, hk, rfl, hown, hbel⟩ := hrel
    by_cases hlt : k < n
    · obtain ⟨b1, o1, rfl, hb1, hc1⟩ := Ha.out k hlt
      have h1 := (hbel.cell (p := ⟨b1, o1 + k, none⟩) hb1).trans hc1
      have h2 : wr.cell? ⟨w.heap.size, k, none⟩ = some (.int .i64 0) := by
        rw [hown.cellAt k (by omega), fillI_get n k xs Hn.out hlt]
      have h3 : wr.frozen? ⟨w.heap.size, k, none⟩ = false := hown.frozenAt k
      have hst := hown.stored k (.int .i64 (xs.getD k 0))
      have HST := Lib.hid hst; have HB := Lib.hid hbel
      clear hc1 hown hst hbel
      go_wp2_with fail
      go_roundw
      case rel =>
        refine ⟨k + 1, by omega, by go_num, ?_, HB.out.grown HST.out.2 HB.out.size (by intro j hj; cases hj; exact Nat.le_refl _)⟩
        rw [← fillI_set n k xs Hn.out hlt]; exact HST.out.1
      case measure => simp [intOf]; omega
    · obtain rfl : k = n := by omega
      go_wp2_with fail
      go_ret
      refine ⟨_, rfl, ?_, hbel⟩
      have h := Ow.of_row hown
      rw [fillI_all k xs Hn.out] at h
      rw [Hn.out]; exact h

/-- The first k cells are marked. -/
def markTo (m : Int) (k : Nat) (cs : List Value) : List Value := ints (seqI m k) ++ cs.drop k
theorem markTo_zero (m : Int) (cs : List Value) : markTo m 0 cs = cs := by simp [markTo, seqI, ints]
theorem markTo_all (m : Int) (n : Nat) (cs : List Value) (h : cs.length = n) : markTo m n cs = ints (seqI m n) := by simp [markTo, ← h]
theorem markTo_set (m : Int) (k : Nat) (cs : List Value) (h : k < cs.length) : (markTo m k cs).set k (.int .i64 (m + (k : Int))) = markTo m (k + 1) cs := by
  have hl : (ints (seqI m k)).length = k := by rw [ints_length, seqI_length]
  have hd : cs.drop k = cs[k] :: cs.drop (k + 1) := by rw [List.drop_eq_getElem_cons h]
  rw [markTo, List.set_append_right _ _ (by omega), hl, Nat.sub_self, hd, List.set_cons_zero, markTo, seqI_succ, ints_append]
  simp [ints]
theorem markTo_get (m : Int) (k : Nat) (cs : List Value) (h : k < cs.length) : ∃ u, (markTo m k cs)[k]? = some u := by
  have hl : (ints (seqI m k)).length = k := by rw [ints_length, seqI_length]
  have hd : k < (markTo m k cs).length := by rw [markTo, List.length_append, hl, List.length_drop]; omega
  exact ⟨_, List.getElem?_eq_getElem hd⟩

set_option maxHeartbeats 400000 in
theorem markIntS_any (w : World) (lo hi : Nat) (va : Value) (m : Int) (xs : List Int) (ha : OwIntS lo hi w va xs) (hm : 0 ≤ m) (hn : m + (cntIntS xs : Int) ≤ 9223372036854775000) :
    Calls Try.prog 47 #[va, .int .i64 m] w fun e w' => ∃ ys, e = .returned (.int .i64 (m + (cntIntS xs : Int))) ∧ MkIntS m xs ys ∧ OwIntS lo hi w' va ys ∧ Chg lo hi w w' := by
  refine Calls.mono (?_ : Calls Try.prog 47 #[va, .int .i64 m] w fun e w' => e = .returned (.int .i64 (m + (cntIntS xs : Int))) ∧ Ow lo hi w' 3 1 va xs.length (ints (seqI m xs.length)) ∧ Chg lo hi w w') ?_
  rotate_left
  · rintro e w' ⟨h1, h2, h3⟩
    exact ⟨seqI m xs.length, h1, rfl, by rw [OwIntS, seqI_length]; exact h2, h3⟩
  unfold OwIntS at ha
  unfold cntIntS at *
  generalize hcs' : ints xs = cs at ha
  generalize xs.length = n at *
  clear hcs'
  rcases ha.cases with ⟨rfl, rfl, a, rfl⟩ | ⟨g, cap, rfl, hlo, hhi, hrow⟩
  · go_enter Try.func47, Try.ntmps47
    go_wp2_with fail
    refine wp_loop_rounds 1 ?_
    rw [rounds_succ]
    go_wp2_with fail
    go_ret
    exact ⟨by simp, by simpa [seqI, ints] using Ow.nil lo hi w 3 1 a, Chg.refl _ _ _⟩
  · have hcs : cs.length = n := by have := hrow.1; omega
    have HC := Lib.hid hcs; have HR := Lib.hid hrow; clear hcs hrow ha
    go_enter Try.func47, Try.ntmps47
    go_wp2_with fail
    go_loopw [1, 5] (fun q i wr => ∃ k : Nat, k ≤ n ∧ i = .int .i64 k ∧ q = .int .i64 (m + (k : Int)) ∧ Hid (wr.ownsRow g 3 1 (.slice (some ⟨g, 0, none⟩) n cap) n (markTo m k cs)) ∧ Hid (Chg g (g + 1) w wr)) (fun _ i _ => n - (intOf i).toNat)
    case atStart => exact ⟨0, Nat.zero_le _, rfl, by simp, by rw [markTo_zero]; exact HR, Lib.hid (Chg.refl _ _ _)⟩
    case round =>
      obtain ⟨k, hk, rfl, rfl, HO, HB⟩ := hrel
      by_cases hlt : k < n
      · have h2 : ∃ u, wr.cell? ⟨g, k, none⟩ = some u := by
          rw [HO.out.cellAt k (by omega)]
          exact markTo_get m k cs (by rw [HC.out]; exact hlt)
        obtain ⟨u, h2⟩ := h2
        have h3 : wr.frozen? ⟨g, k, none⟩ = false := HO.out.frozenAt k
        have hst := HO.out.stored k (.int .i64 (m + (k : Int)))
        have HST := Lib.hid hst; clear hst
        go_wp2_with fail
        go_roundw
        case rel =>
          refine ⟨k + 1, by omega, by go_num, by go_num, ?_, Lib.hid (HB.out.trans (Chg.of_grown HST.out.2))⟩
          rw [← markTo_set m k cs (by rw [HC.out]; exact hlt)]; exact Lib.hid HST.out.1
        case measure => simp [intOf]; omega
      · obtain rfl : k = n := by omega
        go_wp2_with fail
        go_ret
        have h4 := HO.out
        rw [markTo_all m k cs HC.out] at h4
        exact ⟨rfl, Ow.of_block h4 hlo hhi, HB.out.mono hlo (by omega)⟩
end Go.Proofs.Ytgdggkhdollieaa
