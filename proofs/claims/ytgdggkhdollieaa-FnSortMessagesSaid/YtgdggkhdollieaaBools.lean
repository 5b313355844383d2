/-
  Slices of bools: how they read; what the law's helpers do with them: compare, copy, mark, look for the marks, count.
-/
import Derived.Test.YtgdggkhdollieaaInts
import Derived.Test.YtgdggkhdollieaaArgs
import Derived.Test.YtgdggkhdollieaaTri
namespace Go.Proofs.Ytgdggkhdollieaa
open Go.ChangeShapes Go.WideShapes Go.ChangeAt Go.RowKit Go.Joins Go.Deep
set_option linter.unusedVariables false

/-- The cells of a list of bools. -/
def bools (xs : List Bool) : List Value := xs.map Value.bool
theorem bools_length (xs : List Bool) : (bools xs).length = xs.length := by simp [bools]
theorem bools_get (xs : List Bool) (i : Nat) (h : i < xs.length) : (bools xs)[i]? = some (.bool (xs.getD i false)) := by simp [bools, h]
theorem bools_append (xs ys : List Bool) : bools (xs ++ ys) = bools xs ++ bools ys := by simp [bools]
theorem bools_one (xs : List Bool) : ∀ u ∈ bools xs, u.oneCell' = true := by
  intro u hu; obtain ⟨_, _, rfl⟩ := List.mem_map.1 hu; rfl
theorem bools_set (xs : List Bool) (k : Nat) (z : Bool) : (bools xs).set k (.bool z) = bools (xs.set k z) := by simp [bools, List.map_set]
theorem Rd.lenB {w : World} {v : Value} {n : Nat} {xs : List Bool} (h : Rd w 1 v n (bools xs)) : xs.length = n := by
  have := h.1; rw [bools_length] at this; omega
/-- A cell of a slice of bools that is read. -/
theorem Rd.bool {w : World} {v : Value} {xs : List Bool} (h : Rd w 1 v xs.length (bools xs)) :
    ∃ a cap, v = .slice a xs.length cap ∧ xs.length ≤ cap ∧ cap ≤ 9223372036854775807 ∧
      Hid (∀ k, k < xs.length → ∃ b off, a = some ⟨b, off, none⟩ ∧ b < w.heap.size ∧ w.cell? ⟨b, off + k, none⟩ = some (.bool (xs.getD k false))) := by
  obtain ⟨h1, a, cap, rfl, h2, h3, h4⟩ := h
  refine ⟨a, cap, rfl, h2, by unfold maxLen at h3; omega, Lib.hid fun k hk => ?_⟩
  rcases h4 with h4 | ⟨b, off, rfl, hc⟩
  · have h6 : (bools xs).length = 0 := by rw [h4]; rfl
    rw [bools_length] at h6; omega
  · have h5 := hc k (by rw [bools_length]; exact hk)
    rw [bools_get xs k hk] at h5
    exact ⟨b, off, rfl, World.block_lt_of_cell? w _ h5, h5⟩
theorem bools_take_snoc (xs : List Bool) (k : Nat) (h : k < xs.length) : bools (xs.take (k + 1)) = bools (xs.take k) ++ [.bool (xs.getD k false)] := by
  rw [take_snoc xs k false h, bools_append]; rfl
/-- A list of n bools of which the first k are filled in. -/
def fillB (n k : Nat) (xs : List Bool) : List Value := bools (xs.take k) ++ bools (List.replicate (n - k) false)
theorem fillB_start (n : Nat) (xs : List Bool) : fillB n 0 xs = List.replicate n (.bool false) := by simp [fillB, bools]
theorem fillB_get (n k : Nat) (xs : List Bool) (hn : xs.length = n) (hk : k < n) : (fillB n k xs)[k]? = some (.bool false) := by
  have hl : (bools (xs.take k)).length = k := by rw [bools_length, List.length_take]; omega
  have h1 : n - k = (n - (k + 1)) + 1 := by omega
  rw [fillB, List.getElem?_append_right (by omega), hl, Nat.sub_self, h1, List.replicate_succ]; rfl
theorem fillB_set (n k : Nat) (xs : List Bool) (hn : xs.length = n) (hk : k < n) : (fillB n k xs).set k (.bool (xs.getD k false)) = fillB n (k + 1) xs := by
  have hl : (bools (xs.take k)).length = k := by rw [bools_length, List.length_take]; omega
  have h1 : n - k = (n - (k + 1)) + 1 := by omega
  rw [fillB, List.set_append_right _ _ (by omega), hl, Nat.sub_self, h1, List.replicate_succ, fillB, bools_take_snoc xs k (by omega)]
  simp [bools]
theorem fillB_all (n : Nat) (xs : List Bool) (hn : xs.length = n) : fillB n n xs = bools xs := by
  rw [fillB, List.take_of_length_le (by omega), Nat.sub_self]; simp [bools]

theorem infoBool : (Try.prog.info? 4).map (fun i => (i.zero, i.size, i.bytes)) = some (some (.bool false), 1, 1) := by kernel_rfl
def RetB (w : World) (xs : List Bool) (e : Ending) (w' : World) : Prop :=
  ∃ v, e = .returned v ∧ Ow w.heap.size w'.heap.size w' 4 1 v xs.length (bools xs) ∧ Below w.heap.size w w'
abbrev RdBoolS (w : World) (v : Value) (xs : List Bool) : Prop := Rd w 1 v xs.length (bools xs)
abbrev OwBoolS (lo hi : Nat) (w : World) (v : Value) (xs : List Bool) : Prop := Ow lo hi w 4 1 v xs.length (bools xs)
def cntBoolS (xs : List Bool) : Nat := xs.length
/-- The marks m, m + 1, .. that bools can bear. -/
def seqB (m : Int) (n : Nat) : List Bool := (List.range n).map fun (i : Nat) => (m + (i : Int)) % 3 == 0
theorem seqB_length (m : Int) (n : Nat) : (seqB m n).length = n := by simp [seqB]
theorem seqB_succ (m : Int) (n : Nat) : seqB m (n + 1) = seqB m n ++ [(m + (n : Int)) % 3 == 0] := by simp [seqB, List.range_succ]
theorem seqB_getD (m : Int) (n k : Nat) (h : k < n) : (seqB m n).getD k false = ((m + (k : Int)) % 3 == 0) := by simp [seqB, h]
def MkBoolS (m : Int) (xs ys : List Bool) : Prop := ys = seqB m xs.length

set_option maxHeartbeats 400000 in
theorem eqBoolS_same (w : World) (va vb : Value) (xs : List Bool) (ha : Rd w 1 va xs.length (bools xs)) (hb : Rd w 1 vb xs.length (bools xs)) :
    Calls Try.prog 63 #[va, vb] w fun e w' => e = .returned (.bool true) ∧ Below w.heap.size w w' := by
  obtain ⟨a, ca, rfl, hca, hma, Ha⟩ := ha.bool
  obtain ⟨b, cb, rfl, hcb, hmb, Hb⟩ := hb.bool
  clear ha hb
  generalize hn : xs.length = n at *
  have Hn := Lib.hid hn; clear hn
  go_enter Try.func63, Try.ntmps63
  go_wp2_with fail
  go_loopw [5] (fun i wr => ∃ k : Nat, k ≤ n ∧ i = .int .i64 k ∧ Below w.heap.size w wr) (fun i _ => n - (intOf i).toNat)
  case atStart => exact ⟨0, Nat.zero_le _, rfl, Below.refl _ _⟩
  case round =>
    obtain ⟨k, hk, rfl, hbel⟩ := hrel
    by_cases hlt : k < n
    · obtain ⟨b1, o1, rfl, hb1, hc1⟩ := Ha.out k hlt
      obtain ⟨b2, o2, rfl, hb2, hc2⟩ := Hb.out k hlt
      have h1 := (hbel.cell (p := ⟨b1, o1 + k, none⟩) hb1).trans hc1
      have h2 := (hbel.cell (p := ⟨b2, o2 + k, none⟩) hb2).trans hc2
      clear hc1 hc2 Ha Hb
      go_wp2_with fail
      go_quiet (fail)
      go_wp2_with fail
      go_roundw
      case rel => exact ⟨k + 1, by omega, by go_num, hbel.drewN' _⟩
      case measure => simp [intOf]; omega
    · go_wp2_with fail
      go_ret
      exact ⟨rfl, hbel⟩

set_option maxHeartbeats 400000 in
theorem sameFlags_same (w : World) (va vb : Value) (xs : List Bool) (ha : Rd w 1 va xs.length (bools xs)) (hb : Rd w 1 vb xs.length (bools xs)) :
    Calls Try.prog 74 #[va, vb] w fun e w' => e = .returned (.bool true) ∧ Below w.heap.size w w' := by
  obtain ⟨a, ca, rfl, hca, hma, Ha⟩ := ha.bool
  obtain ⟨b, cb, rfl, hcb, hmb, Hb⟩ := hb.bool
  clear ha hb
  generalize hn : xs.length = n at *
  have Hn := Lib.hid hn; clear hn
  go_enter Try.func74, Try.ntmps74
  go_wp2_with fail
  go_loopw [5] (fun i wr => ∃ k : Nat, k ≤ n ∧ i = .int .i64 k ∧ Below w.heap.size w wr) (fun i _ => n - (intOf i).toNat)
  case atStart => exact ⟨0, Nat.zero_le _, rfl, Below.refl _ _⟩
  case round =>
    obtain ⟨k, hk, rfl, hbel⟩ := hrel
    by_cases hlt : k < n
    · obtain ⟨b1, o1, rfl, hb1, hc1⟩ := Ha.out k hlt
      obtain ⟨b2, o2, rfl, hb2, hc2⟩ := Hb.out k hlt
      have h1 := (hbel.cell (p := ⟨b1, o1 + k, none⟩) hb1).trans hc1
      have h2 := (hbel.cell (p := ⟨b2, o2 + k, none⟩) hb2).trans hc2
      clear hc1 hc2 Ha Hb
      go_wp2_with fail
      go_quiet (fail)
      go_wp2_with fail
      go_roundw
      case rel => exact ⟨k + 1, by omega, by go_num, hbel.drewN' _⟩
      case measure => simp [intOf]; omega
    · go_wp2_with fail
      go_ret
      exact ⟨rfl, hbel⟩

set_option maxHeartbeats 400000 in
theorem heldBoolS_any (w : World) (va : Value) (m : Int) (xs ys : List Bool) (hmk : MkBoolS m xs ys) (ha : RdBoolS w va ys) (hm : 0 ≤ m) (hn : m + (cntBoolS xs : Int) ≤ 9223372036854775000) :
    Calls Try.prog 65 #[va, .int .i64 m] w fun e w' => e = .returned (.int .i64 (m + (cntBoolS xs : Int))) ∧ Below w.heap.size w w' := by
  obtain ⟨a, ca, rfl, hca, hma, Ha⟩ := ha.bool
  unfold MkBoolS at hmk
  subst hmk
  unfold cntBoolS at *
  rw [seqB_length] at *
  generalize xs.length = n at *
  clear ha
  go_enter Try.func65, Try.ntmps65
  go_wp2_with fail
  go_loopw [1, 5] (fun q i wr => ∃ k : Nat, k ≤ n ∧ i = .int .i64 k ∧ q = .int .i64 (m + (k : Int)) ∧ Below w.heap.size w wr) (fun _ i _ => n - (intOf i).toNat)
  case atStart => exact ⟨0, Nat.zero_le _, rfl, by simp, Below.refl _ _⟩
  case round =>
    obtain ⟨k, hk, rfl, rfl, hbel⟩ := hrel
    by_cases hlt : k < n
    · obtain ⟨b1, o1, rfl, hb1, hc1⟩ := Ha.out k hlt
      have h1 := (hbel.cell (p := ⟨b1, o1 + k, none⟩) hb1).trans hc1
      rw [seqB_getD m n k hlt] at h1
      clear hc1 Ha
      go_wp2_with fail
      go_roundw
      case rel => exact ⟨k + 1, by omega, by go_num, by go_num, hbel⟩
      case measure => simp [intOf]; omega
    · obtain rfl : k = n := by omega
      go_wp2_with fail
      go_ret
      exact ⟨rfl, hbel⟩
set_option maxHeartbeats 400000 in
theorem toBoolS_any (w : World) (va : Value) (xs : List Bool) (ha : Rd w 1 va xs.length (bools xs)) (hs : xs.length ≤ 1099511627776) :
    Calls Try.prog 83 #[va] w (RetB w xs) := by
  obtain ⟨a, ca, rfl, hca, hma, Ha⟩ := ha.bool
  clear ha
  generalize hn : xs.length = n at *
  have Hn := Lib.hid hn; clear hn
  obtain ⟨i0, hi, hz0, hz1, hz2⟩ := info_parts infoBool
  have Hi := Lib.hid hi; have Hz0 := Lib.hid hz0; have Hz1 := Lib.hid hz1; have Hz2 := Lib.hid hz2; clear hi hz0 hz1 hz2
  go_enter Try.func83, Try.ntmps83
  go_wp2_with (at_make; refine wpList_make_full _ rfl _ _ 39 rfl w.heap.size 4 i0 (.bool false) 1 Try.underlying39 Hi.out Hz0.out Hz1.out _ _ _ _ n rfl rfl rfl rfl (by rw [Hz2.out]; omega) (by unfold maxLen; omega) (Nat.le_refl _) ?_)
  intro w1 hown hgrow
  have HO := Lib.hid hown; have HG := Lib.hid hgrow; clear hown hgrow
  go_wp2_with fail
  go_loopw [4] (fun i wr => ∃ k : Nat, k ≤ n ∧ i = .int .i64 k ∧ wr.ownsRow w.heap.size 4 1 (.slice (some ⟨w.heap.size, 0, none⟩) n n) n (fillB n k xs) ∧ Below w.heap.size w wr) (fun i _ => n - (intOf i).toNat)
  case atStart =>
    refine ⟨0, Nat.zero_le _, rfl, ?_, (Below.refl _ _).grown HG.out (Nat.le_refl _) (by intro k hk; cases hk)⟩
    have h := HO.out
    rw [toList_madeCells_one] at h
    rw [fillB_start]; exact h
  case round =>
    obtain ⟨k, hk, rfl, hown, hbel⟩ := hrel
    by_cases hlt : k < n
    · obtain ⟨b1, o1, rfl, hb1, hc1⟩ := Ha.out k hlt
      have h1 := (hbel.cell (p := ⟨b1, o1 + k, none⟩) hb1).trans hc1
      have h2 : wr.cell? ⟨w.heap.size, k, none⟩ = some (.bool false) := by
        rw [hown.cellAt k (by omega), fillB_get n k xs Hn.out hlt]
      have h3 : wr.frozen? ⟨w.heap.size, k, none⟩ = false := hown.frozenAt k
      have hst := hown.stored k (.bool (xs.getD k false))
      have HST := Lib.hid hst; have HB := Lib.hid hbel
      clear hc1 hown hst hbel
      go_wp2_with fail
      go_roundw
      case rel =>
        refine ⟨k + 1, by omega, by go_num, ?_, HB.out.grown HST.out.2 HB.out.size (by intro j hj; cases hj; exact Nat.le_refl _)⟩
        rw [← fillB_set n k xs Hn.out hlt]; exact HST.out.1
      case measure => simp [intOf]; omega
    · obtain rfl : k = n := by omega
      go_wp2_with fail
      go_ret
      refine ⟨_, rfl, ?_, hbel⟩
      have h := Ow.of_row hown
      rw [fillB_all k xs Hn.out] at h
      rw [Hn.out]; exact h

/-- The first k cells are marked. -/
def markToB (m : Int) (k : Nat) (cs : List Value) : List Value := bools (seqB m k) ++ cs.drop k
theorem markToB_zero (m : Int) (cs : List Value) : markToB m 0 cs = cs := by simp [markToB, seqB, bools]
theorem markToB_all (m : Int) (n : Nat) (cs : List Value) (h : cs.length = n) : markToB m n cs = bools (seqB m n) := by simp [markToB, ← h]
theorem markToB_set (m : Int) (k : Nat) (cs : List Value) (h : k < cs.length) : (markToB m k cs).set k (.bool ((m + (k : Int)) % 3 == 0)) = markToB m (k + 1) cs := by
  have hl : (bools (seqB m k)).length = k := by rw [bools_length, seqB_length]
  have hd : cs.drop k = cs[k] :: cs.drop (k + 1) := by rw [List.drop_eq_getElem_cons h]
  rw [markToB, List.set_append_right _ _ (by omega), hl, Nat.sub_self, hd, List.set_cons_zero, markToB, seqB_succ, bools_append]
  simp [bools]
theorem markToB_get (m : Int) (k : Nat) (cs : List Value) (h : k < cs.length) : ∃ u, (markToB m k cs)[k]? = some u := by
  have hl : (bools (seqB m k)).length = k := by rw [bools_length, seqB_length]
  have hd : k < (markToB m k cs).length := by rw [markToB, List.length_append, hl, List.length_drop]; omega
  exact ⟨_, List.getElem?_eq_getElem hd⟩

set_option maxHeartbeats 400000 in
theorem markBoolS_any (w : World) (lo hi : Nat) (va : Value) (m : Int) (xs : List Bool) (ha : OwBoolS lo hi w va xs) (hm : 0 ≤ m) (hn : m + (cntBoolS xs : Int) ≤ 9223372036854775000) :
    Calls Try.prog 64 #[va, .int .i64 m] w fun e w' => ∃ ys, e = .returned (.int .i64 (m + (cntBoolS xs : Int))) ∧ MkBoolS m xs ys ∧ OwBoolS lo hi w' va ys ∧ Chg lo hi w w' := by
  refine Calls.mono (?_ : Calls Try.prog 64 #[va, .int .i64 m] w fun e w' => e = .returned (.int .i64 (m + (cntBoolS xs : Int))) ∧ Ow lo hi w' 4 1 va xs.length (bools (seqB m xs.length)) ∧ Chg lo hi w w') ?_
  rotate_left
  · rintro e w' ⟨h1, h2, h3⟩
    exact ⟨seqB m xs.length, h1, rfl, by rw [OwBoolS, seqB_length]; exact h2, h3⟩
  unfold OwBoolS at ha
  unfold cntBoolS at *
  generalize hcs' : bools xs = cs at ha
  generalize xs.length = n at *
  clear hcs'
  rcases ha.cases with ⟨rfl, rfl, a, rfl⟩ | ⟨g, cap, rfl, hlo, hhi, hrow⟩
  · go_enter Try.func64, Try.ntmps64
    go_wp2_with fail
    refine wp_loop_rounds 1 ?_
    rw [rounds_succ]
    go_wp2_with fail
    go_ret
    exact ⟨by simp, by simpa [seqB, bools] using Ow.nil lo hi w 4 1 a, Chg.refl _ _ _⟩
  · have hcs : cs.length = n := by have := hrow.1; omega
    have HC := Lib.hid hcs; have HR := Lib.hid hrow; clear hcs hrow ha
    go_enter Try.func64, Try.ntmps64
    go_wp2_with fail
    go_loopw [1, 5] (fun q i wr => ∃ k : Nat, k ≤ n ∧ i = .int .i64 k ∧ q = .int .i64 (m + (k : Int)) ∧ Hid (wr.ownsRow g 4 1 (.slice (some ⟨g, 0, none⟩) n cap) n (markToB m k cs)) ∧ Hid (Chg g (g + 1) w wr)) (fun _ i _ => n - (intOf i).toNat)
    case atStart => exact ⟨0, Nat.zero_le _, rfl, by simp, by rw [markToB_zero]; exact HR, Lib.hid (Chg.refl _ _ _)⟩
    case round =>
      obtain ⟨k, hk, rfl, rfl, HO, HB⟩ := hrel
      by_cases hlt : k < n
      · have h2 : ∃ u, wr.cell? ⟨g, k, none⟩ = some u := by
          rw [HO.out.cellAt k (by omega)]
          exact markToB_get m k cs (by rw [HC.out]; exact hlt)
        obtain ⟨u, h2⟩ := h2
        have h3 : wr.frozen? ⟨g, k, none⟩ = false := HO.out.frozenAt k
        have hst := HO.out.stored k (.bool ((m + (k : Int)) % 3 == 0))
        have HST := Lib.hid hst; clear hst
        go_wp2_with fail
        go_roundw
        case rel =>
          refine ⟨k + 1, by omega, by go_num, by go_num, ?_, Lib.hid (HB.out.trans (Chg.of_grown HST.out.2))⟩
          rw [← markToB_set m k cs (by rw [HC.out]; exact hlt)]; exact Lib.hid HST.out.1
        case measure => simp [intOf]; omega
      · obtain rfl : k = n := by omega
        go_wp2_with fail
        go_ret
        have h4 := HO.out
        rw [markToB_all m k cs HC.out] at h4
        exact ⟨rfl, Ow.of_block h4 hlo hhi, HB.out.mono hlo (by omega)⟩
theorem szBoolS_ok (w : World) (va : Value) (xs : List Bool) (left : Int) (h : RdBoolS w va xs) (hl : (xs.length : Int) ≤ left) (h2 : left ≤ 1048576) :
    Calls Try.prog 81 #[va, .int .i64 left] w fun e w' => e = .returned (.int .i64 (left - (xs.length : Int))) ∧ w = w' := by
  obtain ⟨a, ca, rfl, hca, hma, Ha⟩ := h.bool
  clear h Ha
  go_enter Try.func81, Try.ntmps81
  go_wp2_with fail
  go_ret
  exact ⟨rfl, rfl⟩
theorem szBoolS_no (w : World) (va : Value) (xs : List Bool) (left : Int) (h : RdBoolS w va xs) (hl : left < (xs.length : Int)) (h0 : 0 ≤ left) (h2 : left ≤ 1048576) :
    Calls Try.prog 81 #[va, .int .i64 left] w fun e w' => e = .returned (.int .i64 (-1)) ∧ w = w' := by
  obtain ⟨a, ca, rfl, hca, hma, Ha⟩ := h.bool
  clear h Ha
  go_enter Try.func81, Try.ntmps81
  go_wp2_with fail
  go_ret
  exact ⟨rfl, rfl⟩
end Go.Proofs.Ytgdggkhdollieaa
