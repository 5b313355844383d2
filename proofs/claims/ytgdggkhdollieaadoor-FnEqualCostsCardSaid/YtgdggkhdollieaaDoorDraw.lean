/-
  The reader that draws numbers out of a code: what it gives lies in its range; of the memory it writes its own block alone.
-/
import Derived.Test.YtgdggkhdollieaaDoorInts
import Derived.Test.YtgdggkhdollieaaDoorPure
import Derived.Laws.Bits64
namespace Go.Proofs.YtgdggkhdollieaaDoor
open Go.RowKit

/-- The reader lies in block r: the code (read in the world W, in which the law began), and how far it has read. -/
structure Drw (W : World) (sv : Value) (bs : List Int) (r : Nat) (lim : Int) (w : World) : Prop where
  below : Below W.heap.size W w
  lo : W.heap.size ≤ r
  blk : ∃ p : Int, w.heap[r]? = some (.cells #[sv, .int .i64 p] 53 (0, 0)) ∧ 0 ≤ p ∧ p ≤ lim
  rd : Rd W 1 sv bs.length (bys bs)
  rng : ∀ x ∈ bs, 0 ≤ x ∧ x ≤ 255
  len : bs.length ≤ 2000
theorem Drw.lt {W : World} {sv : Value} {bs : List Int} {r : Nat} {lim : Int} {w : World} (h : Drw W sv bs r lim w) : r < w.heap.size := by
  obtain ⟨p, hp, _⟩ := h.blk
  exact (Array.getElem?_eq_some_iff.1 hp).1
theorem Drw.keep {W : World} {sv : Value} {bs : List Int} {r : Nat} {lim : Int} {w w' : World} (h : Drw W sv bs r lim w) (hb : Below w.heap.size w w') : Drw W sv bs r lim w' := by
  refine ⟨h.below.tr hb, h.lo, ?_, h.rd, h.rng, h.len⟩
  obtain ⟨p, hp, h1⟩ := h.blk
  exact ⟨p, (hb.block r (Array.getElem?_eq_some_iff.1 hp).1).trans hp, h1⟩
theorem Drw.mono {W : World} {sv : Value} {bs : List Int} {r : Nat} {lim lim' : Int} {w : World} (h : Drw W sv bs r lim w) (hl : lim ≤ lim') : Drw W sv bs r lim' w := by
  obtain ⟨p, hp, h1, h2⟩ := h.blk
  exact ⟨h.below, h.lo, ⟨p, hp, h1, by omega⟩, h.rd, h.rng, h.len⟩

theorem xor_i64_nat (a b : Nat) (ha : a < 4611686018427387904) (hb : b < 4611686018427387904) : bits .xor .i64 (a : Int) (b : Int) = ((a ^^^ b : Nat) : Int) := by
  have hx : a ^^^ b < 2 ^ 62 := Nat.xor_lt_two_pow (by omega) (by omega)
  have h1 : (BitVec.ofInt 64 (a : Int)).toNat = a := by
    rw [BitVec.ofInt_natCast, BitVec.toNat_ofNat]; exact Nat.mod_eq_of_lt (by omega)
  have h2 : (BitVec.ofInt 64 (b : Int)).toNat = b := by
    rw [BitVec.ofInt_natCast, BitVec.toNat_ofNat]; exact Nat.mod_eq_of_lt (by omega)
  show IntKind.i64.wrap ((BitVec.ofInt 64 (a : Int) ^^^ BitVec.ofInt 64 (b : Int)).toNat : Int) = _
  rw [BitVec.toNat_xor, h1, h2, IntKind.wrap_i64]
  omega
theorem xor_i64_rng (a b : Int) (h1 : 0 ≤ a) (h2 : a ≤ 1000000000000000) (h3 : 0 ≤ b) (h4 : b ≤ 1000000000000000) : ∃ c : Int, bits .xor .i64 a b = c ∧ 0 ≤ c ∧ c ≤ 4611686018427387904 := by
  obtain ⟨n, rfl⟩ := Int.eq_ofNat_of_zero_le h1
  obtain ⟨m, rfl⟩ := Int.eq_ofNat_of_zero_le h3
  have hx : n ^^^ m < 2 ^ 62 := Nat.xor_lt_two_pow (by omega) (by omega)
  exact ⟨_, xor_i64_nat n m (by omega) (by omega), by omega, by omega⟩

/-- A number in 0..n-1 was drawn (0 where n is less than 1). -/
def Picked (W : World) (sv : Value) (bs : List Int) (r : Nat) (lim n : Int) (w : World) (e : Ending) (w' : World) : Prop :=
  ∃ c : Int, e = .returned (.int .i64 c) ∧ 0 ≤ c ∧ (1 ≤ n → c < n) ∧ (n < 1 → c = 0) ∧ Drw W sv bs r (lim + 1) w' ∧ Chg r (r + 1) w w'

theorem drw_step {W : World} {sv : Value} {bs : List Int} {r : Nat} {lim : Int} {w : World} {p : Int} (h : Drw W sv bs r lim w) (hp : w.heap[r]? = some (.cells #[sv, .int .i64 p] 53 (0, 0))) (h0 : 0 ≤ p) (h1 : p ≤ lim) (n : Nat) :
    Drw W sv bs r (lim + 1) ((w.setCell ⟨r, 1, none⟩ (.int .i64 (p + 1))).drewN n) ∧ Chg r (r + 1) w ((w.setCell ⟨r, 1, none⟩ (.int .i64 (p + 1))).drewN n) := by
  refine ⟨⟨?_, h.lo, ⟨p + 1, ?_, by omega, by omega⟩, h.rd, h.rng, h.len⟩, ?_⟩
  · exact (h.below.setCell (p := ⟨r, 1, none⟩) h.lo _).drewN' _
  · rw [World.heap_drewN]
    have := heap_setCell_same w r 1 _ _ (.int .i64 (p + 1)) hp
    rw [this]; rfl
  · exact (Chg.setCell (p := ⟨r, 1, none⟩) (Nat.le_refl _) (Nat.lt_succ_self _) _).drewN _

set_option maxRecDepth 100000 in
set_option maxHeartbeats 4000000 in
theorem pick_any (W : World) (sv : Value) (bs : List Int) (r : Nat) (lim n : Int) (w : World) (h : Drw W sv bs r lim w) (hl : lim ≤ 1000000000) (hn0 : -1000000000 ≤ n) (hn : n ≤ 1000000000) :
    Calls Tryd.prog 24 #[.pointer (some ⟨r, 0, none⟩), .int .i64 n] w (Picked W sv bs r lim n w) := by
  obtain ⟨p, hp, hp0, hp1⟩ := h.blk
  have hst := drw_step h hp hp0 hp1
  have hc0 : w.cell? ⟨r, 0, none⟩ = some sv := by rw [cell_of_row w r 0 _ _ _ hp]; rfl
  have hc1 : w.cell? ⟨r, 1, none⟩ = some (.int .i64 p) := by rw [cell_of_row w r 1 _ _ _ hp]; rfl
  have hf1 : w.frozen? ⟨r, 1, none⟩ = false := frozen_of_row w r 1 _ _ hp
  have hlo := h.lo
  have hrd := h.rd; have hbel := h.below; have hrng := h.rng; have hlen := h.len
  have HST := Lib.hid hst
  clear hst hp h
  obtain ⟨hlb, av, cap, rfl, hcap, hmc, hcell⟩ := hrd
  by_cases hn1 : n < 1
  · have HN := Lib.hid hn1
    clear hcell hrng hlb hbel
    go_enter Tryd.func24, Tryd.ntmps24
    go_wp2_with fail
    go_ret
    exact ⟨0, rfl, Int.le_refl _, fun h => by have := HN.out; omega, fun _ => rfl, (HST.out 0).1, (HST.out 0).2⟩
  · by_cases hbl : bs.length = 0
    · have hb2 : ((bs.length : Int) == 0) = true := by simp [hbl]
      have hn2 : decide (n < 1) = false := by simp; omega
      have HN := Lib.hid hn1
      clear hcell hrng hlb hbel hbl hn1
      go_enter Tryd.func24, Tryd.ntmps24
      go_wp2_with fail
      go_ret
      exact ⟨0, rfl, Int.le_refl _, fun h => by omega, fun _ => rfl, (HST.out 0).1, (HST.out 0).2⟩
    · obtain ⟨k, rfl⟩ := Int.eq_ofNat_of_zero_le hp0
      have hne : ¬ bys bs = [] := fun e => hbl (by have := congrArg List.length e; simpa [bys] using this)
      obtain ⟨b, off, rfl, hcell2⟩ := hcell.resolve_left hne
      have hb2 : ((bs.length : Int) == 0) = false := by simp; intro h; exact hbl (by simp [h])
      have hn2 : decide (n < 1) = false := by simp; omega
      have hcw : ∀ i, i < bs.length → b < W.heap.size ∧ w.cell? ⟨b, off + i, none⟩ = some (.int .u8 (bs.getD i 0)) ∧ 0 ≤ bs.getD i 0 ∧ bs.getD i 0 ≤ 255 := by
        intro i hi
        have h1 := hcell2 i (by simpa [bys] using hi)
        rw [show (bys bs)[i]? = some (.int .u8 (bs.getD i 0)) from by simp [bys, hi]] at h1
        have hb := World.block_lt_of_cell? W _ h1
        exact ⟨hb, (hbel.cell (p := ⟨b, off + i, none⟩) hb).trans h1, hrng _ (getD_mem hi)⟩
      have HCW := Lib.hid hcw
      have HN := Lib.hid hn1
      clear hcell hcell2 hrng hlb hbel hbl hcw hne
      have hn3 : 1 ≤ n := by omega
      clear hn1
      generalize hl' : bs.length = len at *
      have HL := Lib.hid hl'; clear hl'
      by_cases hk : k < len
      · obtain ⟨hb, hc2, hx0, hx1⟩ := HCW.out k hk
        have hbr : b < r := by omega
        generalize bs.getD k 0 = x at *
        clear HCW
        have hm := Int.emod_nonneg x (b := n) (by omega)
        have hm2 := Int.emod_lt_of_pos x (b := n) (by omega)
        have HM := Lib.hid hm; have HM2 := Lib.hid hm2; clear hm hm2
        go_enter Tryd.func24, Tryd.ntmps24
        go_wp2_with fail
        go_ret
        exact ⟨x % n, rfl, HM.out, fun _ => HM2.out, fun h => by omega, (HST.out 0).1, (HST.out 0).2⟩
      · have hlen0 : 0 < len := by
          rcases Nat.eq_zero_or_pos len with h | h
          · subst h; simp at hb2
          · exact h
        obtain ⟨hb, hc2, hx0, hx1⟩ := HCW.out (k % len) (Nat.mod_lt _ hlen0)
        obtain ⟨_, hc3, hy0, hy1⟩ := HCW.out ((k * 7 + 3) % len) (Nat.mod_lt _ hlen0)
        have hbr : b < r := by omega
        have t1 : (k : Int).tmod (len : Int) = ((k % len : Nat) : Int) := rfl
        have t2 : ((k : Int) * 7 + 3).tmod (len : Int) = (((k * 7 + 3) % len : Nat) : Int) := by
          rw [show (k : Int) * 7 + 3 = ((k * 7 + 3 : Nat) : Int) from by omega]; rfl
        have i1 : k % len < len := Nat.mod_lt _ hlen0
        have i2 : (k * 7 + 3) % len < len := Nat.mod_lt _ hlen0
        have hq : (k : Int).tdiv (len : Int) = ((k / len : Nat) : Int) := rfl
        have hqk : k / len ≤ k := Nat.div_le_self _ _
        generalize bs.getD (k % len) 0 = x at *
        generalize bs.getD ((k * 7 + 3) % len) 0 = y at *
        generalize k % len = n1 at *
        generalize (k * 7 + 3) % len = n2 at *
        generalize k / len = q at *
        have hln : ¬ len = 0 := by omega
        have w1 : IntKind.i64.wrap ((k : Int) * 7) = (k : Int) * 7 := IntWalk.i64_in _ (by omega)
        have w2 : IntKind.i64.wrap ((k : Int) * 7 + 3) = (k : Int) * 7 + 3 := IntWalk.i64_in _ (by omega)
        have w3 : IntKind.i64.wrap (x * 131) = x * 131 := IntWalk.i64_in _ (by omega)
        have w4 : IntKind.i64.wrap (y * 1117) = y * 1117 := IntWalk.i64_in _ (by omega)
        have w5 : IntKind.i64.wrap (x * 131 + y * 1117) = x * 131 + y * 1117 := IntWalk.i64_in _ (by omega)
        have w6 : IntKind.i64.wrap ((k : Int) * 29) = (k : Int) * 29 := IntWalk.i64_in _ (by omega)
        have w7 : IntKind.i64.wrap (x * 131 + y * 1117 + (k : Int) * 29) = x * 131 + y * 1117 + (k : Int) * 29 := IntWalk.i64_in _ (by omega)
        have w8 : IntKind.i64.wrap (q : Int) = (q : Int) := IntWalk.i64_in _ (by omega)
        have w9 : IntKind.i64.wrap ((q : Int) * 53) = (q : Int) * 53 := IntWalk.i64_in _ (by omega)
        have w10 : IntKind.i64.wrap (x * 131 + y * 1117 + (k : Int) * 29 + (q : Int) * 53) = x * 131 + y * 1117 + (k : Int) * 29 + (q : Int) * 53 := IntWalk.i64_in _ (by omega)
        have w11 : IntKind.i64.wrap x = x := IntWalk.i64_in _ (by omega)
        have w12 : IntKind.i64.wrap y = y := IntWalk.i64_in _ (by omega)
        have hS0 : 0 ≤ x * 131 + y * 1117 + (k : Int) * 29 + (q : Int) * 53 := by omega
        have hS1 : x * 131 + y * 1117 + (k : Int) * 29 + (q : Int) * 53 ≤ 1000000000000 := by omega
        have HS0 := Lib.hid hS0; have HS1 := Lib.hid hS1
        have W1 := Lib.hid w1; have W2 := Lib.hid w2; have W3 := Lib.hid w3; have W4 := Lib.hid w4; have W5 := Lib.hid w5; have W6 := Lib.hid w6; have W7 := Lib.hid w7; have W8 := Lib.hid w8; have W9 := Lib.hid w9; have W10 := Lib.hid w10; have W11 := Lib.hid w11; have W12 := Lib.hid w12
        have T1 := Lib.hid t1; have T2 := Lib.hid t2; have HQ := Lib.hid hq
        clear w1 w2 w3 w4 w5 w6 w7 w8 w9 w10 w11 w12 hS0 hS1 t1 t2 hq HCW
        go_enter Tryd.func24, Tryd.ntmps24
        go_wp2_with fail
        have w1 := W1.out; have w2 := W2.out; have w3 := W3.out; have w4 := W4.out; have w5 := W5.out; have w6 := W6.out; have w7 := W7.out; have w8 := W8.out; have w9 := W9.out; have w10 := W10.out; have w11 := W11.out; have w12 := W12.out
        have t1 := T1.out; have t2 := T2.out; have hq := HQ.out
        go_quiet (fail)
        clear w1 w2 w3 w4 w5 w6 w7 w8 w9 w10 w11 w12 t1 t2 hq
        generalize x * 131 + y * 1117 + (k : Int) * 29 + (q : Int) * 53 = S at *
        have s0 := HS0.out; have s1 := HS1.out
        have d0 : 0 ≤ S / 64 := Int.ediv_nonneg s0 (by decide)
        have d1 : S / 64 ≤ S := Int.ediv_le_self _ s0
        obtain ⟨c, hc, hc0, hc9⟩ := xor_i64_rng S (S / 64) s0 (by omega) d0 (by omega)
        have hm := Int.emod_nonneg c (b := n) (by omega)
        have hm2 := Int.emod_lt_of_pos c (b := n) (by omega)
        have HM := Lib.hid hm; have HM2 := Lib.hid hm2; clear hm hm2
        go_wp2_with fail
        go_ret
        exact ⟨c % n, rfl, HM.out, fun _ => HM2.out, fun h => by omega, (HST.out _).1, (HST.out _).2⟩

/-- A truth was drawn (false where n is not positive). -/
def Odd (W : World) (sv : Value) (bs : List Int) (r : Nat) (lim n : Int) (w : World) (e : Ending) (w' : World) : Prop :=
  ∃ b : Bool, e = .returned (.bool b) ∧ (n ≤ 0 → b = false) ∧ Drw W sv bs r (lim + 1) w' ∧ Chg r (r + 1) w w'

set_option maxRecDepth 100000 in
set_option maxHeartbeats 1000000 in
theorem odd_any (W : World) (sv : Value) (bs : List Int) (r : Nat) (lim n : Int) (w : World) (h : Drw W sv bs r lim w) (hl : lim ≤ 1000000000) (hn0 : -1000000000 ≤ n) (hn : n ≤ 1000000000) :
    Calls Tryd.prog 35 #[.pointer (some ⟨r, 0, none⟩), .int .i64 n] w (Odd W sv bs r lim n w) := by
  have hp := pick_any W sv bs r lim n w h hl hn0 hn
  have HP := Lib.hid hp; have H := Lib.hid h; clear hp h
  by_cases h0 : 0 < n
  · go_enter Tryd.func35, Tryd.ntmps35
    go_wp2_with (go_at_call 24; refine HP.out.mono ?_; rintro e w1 ⟨c, rfl, hc0, hc1, hc2, hd, hg⟩)
    go_ret
    exact ⟨_, rfl, fun h => by omega, hd, hg⟩
  · go_enter Tryd.func35, Tryd.ntmps35
    go_wp2_with fail
    go_ret
    exact ⟨false, rfl, fun _ => rfl, H.out.mono (by omega), Chg.refl _ _ _⟩

/-- The reader was made. -/
def Opened (W : World) (w : World) (e : Ending) (w' : World) : Prop :=
  ∃ sv bs, e = .returned (.pointer (some ⟨w.heap.size, 0, none⟩)) ∧ Drw W sv bs w.heap.size 0 w' ∧ Below w.heap.size w w' ∧ w'.heap.size = w.heap.size + 1

set_option maxRecDepth 100000 in
set_option maxHeartbeats 1000000 in
theorem open_any (W : World) (va : Value) (bs : List Int) (w : World) (hr : Rd W 1 va bs.length (bys bs)) (hg : ∀ x ∈ bs, 0 ≤ x ∧ x ≤ 255) (hb : Below W.heap.size W w) :
    Calls Tryd.prog 12 #[va] w (Opened W w) := by
  have HR0 := Lib.hid hr; have HG := Lib.hid hg; have HB := Lib.hid hb
  obtain ⟨hlb, av, cap, rfl, hcap, hmc, hcell⟩ := hr
  clear hg hb hlb hcell
  have hmc2 : cap ≤ 9223372036854775807 := by unfold maxLen at hmc; omega
  clear hmc
  generalize hn : bs.length = n at *
  have HN := Lib.hid hn; clear hn
  by_cases hl : n ≤ 2000
  · have hl' : decide ((n : Int) > 2000) = false := by simp; omega
    go_enter Tryd.func12, Tryd.ntmps12
    go_wp2_with fail
    go_ret
    exact ⟨_, bs, rfl, ⟨HB.out.alloc HB.out.size _, HB.out.size, ⟨0, heap_alloc_new _ _, Int.le_refl _, Int.le_refl _⟩, by rw [HN.out]; exact HR0.out, HG.out, by rw [HN.out]; exact hl⟩, (Below.refl _ _).alloc (Nat.le_refl _) _, by simp⟩
  · have hl' : decide ((n : Int) > 2000) = true := by simp; omega
    go_enter Tryd.func12, Tryd.ntmps12
    go_wp2_with fail
    go_ret
    have h2 := HR0.out.take 2000 (by omega)
    have e : (bys bs).take (2000 * 1) = bys (bs.take 2000) := by simp [bys]
    have e2 : (bs.take 2000).length = 2000 := by rw [List.length_take, HN.out]; omega
    rw [e] at h2
    exact ⟨_, bs.take 2000, rfl, ⟨HB.out.alloc HB.out.size _, HB.out.size, ⟨0, heap_alloc_new _ _, Int.le_refl _, Int.le_refl _⟩, by rw [e2]; exact h2, fun x hx => HG.out x (List.mem_of_mem_take hx), by rw [e2]; exact Nat.le_refl _⟩, (Below.refl _ _).alloc (Nat.le_refl _) _, by simp⟩
end Go.Proofs.YtgdggkhdollieaaDoor
