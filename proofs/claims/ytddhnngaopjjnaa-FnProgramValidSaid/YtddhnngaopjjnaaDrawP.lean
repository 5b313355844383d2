/-
  What is drawn: programs.
-/
import Derived.Test.YtddhnngaopjjnaaDraws
import Derived.Test.YtddhnngaopjjnaaLib3
import Derived.Deep.DeepCutAuto
import Derived.Deep.CutBlock
namespace Go.Proofs.Ytddhnngaopjjnaa
open Go.RowKit

theorem box_chg {lo hi b : Nat} {w w' : World} {o : Obj} (h : w.heap[b]? = some o) (hc : Chg lo hi w w') (hd : hi ≤ b ∨ b < lo) : w'.heap[b]? = some o := (hc.block b (box_lt h) (by omega)).trans h

/-- A program was drawn. -/
def DrewTri (W : World) (sv : Value) (bs : List Int) (r : Nat) (lim : Int) (w : World) (e : Ending) (w' : World) : Prop :=
  ∃ a b c : Int, e = .returned (.agg #[.int .i64 a, .int .i64 b, .int .i64 c]) ∧ (In64 a ∧ In64 b ∧ In64 c) ∧ Drw W sv bs r lim w' ∧ Chg r (r + 1) w w'

set_option maxRecDepth 100000 in
set_option maxHeartbeats 8000000 in
theorem l20Program_any (W : World) (sv : Value) (bs : List Int) (r : Nat) (lim many n : Int) (w : World) (h : Drw W sv bs r lim w) (hl : lim ≤ 900000000) (hm0 : 2 ≤ many) (hm : many ≤ 1000000000) (hn0 : -1000000000 ≤ n) (hn : n ≤ 1000000000) :
    Calls Try.prog 70 #[.pointer (some ⟨r, 0, none⟩), .int .i64 many, .int .i64 n] w (DrewTri W sv bs r (lim + 9) w) := by
  have hrlt := h.lt
  have HD := Lib.hid (h.keep ((Below.refl _ _).alloc (Nat.le_refl _) (.cells #[.int .i64 0, .int .i64 0, .int .i64 0] 46)))
  have HG : Hid (Chg r (r + 1) w (w.alloc (.cells #[.int .i64 0, .int .i64 0, .int .i64 0] 46))) := Lib.hid ((Chg.refl _ _ _).alloc _)
  have H6 := Lib.hid (heap_alloc_new w (.cells #[.int .i64 0, .int .i64 0, .int .i64 0] 46))
  clear h
  go_enter Try.func70, Try.ntmps70
  go_wp2_with fail
  refine (pick_any W sv _ _ _ _ _ HD.out (by omega) (by omega) (by omega)).mono ?_
  rintro e w1 ⟨k, rfl, k0, k1, k2, hd, hg⟩
  replace HD := Lib.hid hd
  replace H6 := Lib.hid (box_chg H6.out hg (.inl (by omega)))
  replace HG := Lib.hid (HG.out.trans hg)
  replace k1 := k1 (by omega)
  clear hd hg k2
  have hs1 := HG.out.size
  have hs2 := box_lt H6.out
  skip
  replace HD := Lib.hid (HD.out.keep ((Below.refl _ _).alloc (Nat.le_refl _) (.cells #[.int .i64 (1 + k), .int .i64 0, .int .i64 0] 46)))
  replace HG := Lib.hid (HG.out.alloc (.cells #[.int .i64 (1 + k), .int .i64 0, .int .i64 0] 46))
  replace H6 := Lib.hid (box_alloc H6.out (.cells #[.int .i64 (1 + k), .int .i64 0, .int .i64 0] 46))
  have H7 := Lib.hid (heap_alloc_new w1 (.cells #[.int .i64 (1 + k), .int .i64 0, .int .i64 0] 46))
  have hqs : w1.heap.size < (w1.alloc (.cells #[.int .i64 (1 + k), .int .i64 0, .int .i64 0] 46)).heap.size := by simp
  go_upto_block 0 with fail
  generalize (w1.alloc (.cells #[.int .i64 (1 + k), .int .i64 0, .int .i64 0] 46)) = w2 at *
  have HT : Hid (∃ a b c : Int, w2.heap[w1.heap.size]? = some (.cells #[.int .i64 a, .int .i64 b, .int .i64 c] 46 (0, 0)) ∧ In64 a ∧ In64 b ∧ In64 c) := Lib.hid ⟨_, _, _, H7.out, by unfold In64; omega, by unfold In64; omega, by unfold In64; omega⟩
  clear H7
  generalize w1.heap.size = q at *
  go_cut [13] (fun _ wx => Hid (Drw W sv bs r (lim + 4) wx) ∧ Hid (Chg r (r + 1) w wx) ∧ Hid (wx.heap[w.heap.size]? = some (.cells #[.int .i64 0, .int .i64 0, .int .i64 0] 46 (0, 0))) ∧ Hid (∃ a b c : Int, wx.heap[q]? = some (.cells #[.int .i64 a, .int .i64 b, .int .i64 c] 46 (0, 0)) ∧ In64 a ∧ In64 b ∧ In64 c))
  case first =>
    rcases (by omega : k = 0 ∨ k = 1 ∨ k = 2 ∨ k = 3 ∨ k = 4 ∨ k = 5) with rfl | rfl | rfl | rfl | rfl | rfl
    · clear k0 k1
      go_wp2_with fail
      refine (pick_any W sv _ _ _ _ _ HD.out (by omega) (by omega) (by omega)).mono ?_
      rintro e w3 ⟨x, rfl, x0, x1, x2, hd, hg⟩
      replace x1 := x1 (by omega)
      replace HD := Lib.hid hd
      have HT' := Lib.hid HT.out; clear HT; have HT : Hid (∃ a b c : Int, w3.heap[q]? = some (.cells #[.int .i64 a, .int .i64 b, .int .i64 c] 46 (0, 0)) ∧ In64 a ∧ In64 b ∧ In64 c) := Lib.hid (by obtain ⟨a, b, c, h1, h2⟩ := HT'.out; exact ⟨a, b, c, box_chg h1 hg (.inl (by omega)), h2⟩)
      replace H6 := Lib.hid (box_chg H6.out hg (.inl (by omega)))
      replace HG := Lib.hid (HG.out.trans hg)
      have hz_w3 := hg.size
      clear hd hg HT' x2
      obtain ⟨a, b, c, hq, ia, ib, ic⟩ := HT.out
      have hfz := box_frozen hq 1; have hqc := box_cell hq 1 _ rfl
      have hqlt := box_lt hq
      have HT2 : Hid (∃ a b c : Int, (w3.setCell ⟨q, 1, none⟩ (.int .i64 x)).heap[q]? = some (.cells #[.int .i64 a, .int .i64 b, .int .i64 c] 46 (0, 0)) ∧ In64 a ∧ In64 b ∧ In64 c) := Lib.hid ⟨a, x, c, box_set hq 1 _, ia, (by unfold In64; omega), ic⟩
      replace H6 := Lib.hid (box_other H6.out ⟨q, 1, none⟩ (.int .i64 x) (by simp; omega))
      replace HD := Lib.hid (HD.out.keepB ((Below.refl q _).setCell (p := ⟨q, 1, none⟩) (Nat.le_refl _) (.int .i64 x)) (by omega))
      replace HG := Lib.hid (HG.out.then ((Below.refl w.heap.size _).setCell (p := ⟨q, 1, none⟩) (by simp; omega) (.int .i64 x)))
      clear hq HT ia ib ic
      go_wp2_with fail
      clear hfz hqc
      have HT := Lib.hid HT2.out; clear HT2
      generalize (w3.setCell ⟨q, 1, none⟩ (.int .i64 x)) = w9 at *
      go_meet
      exact ⟨Lib.hid (HD.out.mono (by omega)), HG, H6, HT⟩
    · clear k0 k1
      go_wp2_with fail
      refine (pick_any W sv _ _ _ _ _ HD.out (by omega) (by omega) (by omega)).mono ?_
      rintro e w3 ⟨x, rfl, x0, x1, x2, hd, hg⟩
      replace x1 := x1 (by omega)
      replace HD := Lib.hid hd
      have HT' := Lib.hid HT.out; clear HT; have HT : Hid (∃ a b c : Int, w3.heap[q]? = some (.cells #[.int .i64 a, .int .i64 b, .int .i64 c] 46 (0, 0)) ∧ In64 a ∧ In64 b ∧ In64 c) := Lib.hid (by obtain ⟨a, b, c, h1, h2⟩ := HT'.out; exact ⟨a, b, c, box_chg h1 hg (.inl (by omega)), h2⟩)
      replace H6 := Lib.hid (box_chg H6.out hg (.inl (by omega)))
      replace HG := Lib.hid (HG.out.trans hg)
      have hz_w3 := hg.size
      clear hd hg HT' x2
      obtain ⟨a, b, c, hq, ia, ib, ic⟩ := HT.out
      have hfz := box_frozen hq 1; have hqc := box_cell hq 1 _ rfl
      have hqlt := box_lt hq
      have HT2 : Hid (∃ a b c : Int, (w3.setCell ⟨q, 1, none⟩ (.int .i64 x)).heap[q]? = some (.cells #[.int .i64 a, .int .i64 b, .int .i64 c] 46 (0, 0)) ∧ In64 a ∧ In64 b ∧ In64 c) := Lib.hid ⟨a, x, c, box_set hq 1 _, ia, (by unfold In64; omega), ic⟩
      replace H6 := Lib.hid (box_other H6.out ⟨q, 1, none⟩ (.int .i64 x) (by simp; omega))
      replace HD := Lib.hid (HD.out.keepB ((Below.refl q _).setCell (p := ⟨q, 1, none⟩) (Nat.le_refl _) (.int .i64 x)) (by omega))
      replace HG := Lib.hid (HG.out.then ((Below.refl w.heap.size _).setCell (p := ⟨q, 1, none⟩) (by simp; omega) (.int .i64 x)))
      clear hq HT ia ib ic
      go_wp2_with fail
      clear hfz hqc
      have HT := Lib.hid HT2.out; clear HT2
      generalize (w3.setCell ⟨q, 1, none⟩ (.int .i64 x)) = w9 at *
      go_meet
      exact ⟨Lib.hid (HD.out.mono (by omega)), HG, H6, HT⟩
    · clear k0 k1
      go_wp2_with fail
      go_meet
      exact ⟨Lib.hid (HD.out.mono (by omega)), HG, H6, HT⟩
    · clear k0 k1
      go_wp2_with fail
      refine (pick_any W sv _ _ _ _ _ HD.out (by omega) (by omega) (by omega)).mono ?_
      rintro e w3 ⟨x, rfl, x0, x1, x2, hd, hg⟩
      replace x1 := x1 (by omega)
      replace HD := Lib.hid hd
      have HT' := Lib.hid HT.out; clear HT; have HT : Hid (∃ a b c : Int, w3.heap[q]? = some (.cells #[.int .i64 a, .int .i64 b, .int .i64 c] 46 (0, 0)) ∧ In64 a ∧ In64 b ∧ In64 c) := Lib.hid (by obtain ⟨a, b, c, h1, h2⟩ := HT'.out; exact ⟨a, b, c, box_chg h1 hg (.inl (by omega)), h2⟩)
      replace H6 := Lib.hid (box_chg H6.out hg (.inl (by omega)))
      replace HG := Lib.hid (HG.out.trans hg)
      have hz_w3 := hg.size
      clear hd hg HT' x2
      go_wp2_with fail
      have hrb_w3 := box_lt H6.out
      have HC : Hid (∀ j : Nat, j < 3 → ∃ z : Int, (w3.alloc (.cells #[.int .i64 (1 + x), .int .i64 8, .int .i64 20] 3)).cell? ⟨w3.heap.size, j, none⟩ = some (.int .i64 z) ∧ In64 z) := Lib.hid (by
        intro j hj
        rw [World.cell?_alloc_at _ _ _ _ rfl]
        match j, hj with
        | 0, _ => exact ⟨_, rfl, by unfold In64; omega⟩
        | 1, _ => exact ⟨_, rfl, by unfold In64; omega⟩
        | 2, _ => exact ⟨_, rfl, by unfold In64; omega⟩)
      have HSZ : Hid ((w3.alloc (.cells #[.int .i64 (1 + x), .int .i64 8, .int .i64 20] 3)).heap.size = w3.heap.size + 1) := Lib.hid (by simp)
      have HT' := Lib.hid HT.out; clear HT; have HT : Hid (∃ a b c : Int, (w3.alloc (.cells #[.int .i64 (1 + x), .int .i64 8, .int .i64 20] 3)).heap[q]? = some (.cells #[.int .i64 a, .int .i64 b, .int .i64 c] 46 (0, 0)) ∧ In64 a ∧ In64 b ∧ In64 c) := Lib.hid (by obtain ⟨a, b, c, h1, h2⟩ := HT'.out; exact ⟨a, b, c, box_alloc h1 _, h2⟩)
      replace HD := Lib.hid (HD.out.keep ((Below.refl _ _).alloc (Nat.le_refl _) (.cells #[.int .i64 (1 + x), .int .i64 8, .int .i64 20] 3)))
      replace H6 := Lib.hid (box_alloc H6.out (.cells #[.int .i64 (1 + x), .int .i64 8, .int .i64 20] 3))
      replace HG := Lib.hid (HG.out.alloc (.cells #[.int .i64 (1 + x), .int .i64 8, .int .i64 20] 3))
      clear HT'
      generalize (w3.alloc (.cells #[.int .i64 (1 + x), .int .i64 8, .int .i64 20] 3)) = w4 at *
      refine (pick_any W sv _ _ _ _ _ HD.out (by omega) (by omega) (by omega)).mono ?_
      rintro e w5 ⟨y, rfl, y0, y1, y2, hd, hg⟩
      replace y1 := y1 (by omega)
      replace HD := Lib.hid hd
      have HGP := Lib.hid hg
      have HT' := Lib.hid HT.out; clear HT; have HT : Hid (∃ a b c : Int, w5.heap[q]? = some (.cells #[.int .i64 a, .int .i64 b, .int .i64 c] 46 (0, 0)) ∧ In64 a ∧ In64 b ∧ In64 c) := Lib.hid (by obtain ⟨a, b, c, h1, h2⟩ := HT'.out; exact ⟨a, b, c, box_chg h1 hg (.inl (by omega)), h2⟩)
      replace H6 := Lib.hid (box_chg H6.out hg (.inl (by omega)))
      replace HG := Lib.hid (HG.out.trans hg)
      have hz_w5 := hg.size
      clear hd hg HT' y2
      obtain ⟨j, rfl⟩ := Int.eq_ofNat_of_zero_le y0
      obtain ⟨z, hz, hzi⟩ := HC.out j (by omega)
      have hz' : w5.cell? ⟨w3.heap.size, j, none⟩ = some (.int .i64 z) := by
        rw [World.cell?_of_block (HGP.out.block w3.heap.size (by rw [HSZ.out]; omega) (by omega))]; exact hz
      clear hz HC HSZ HGP
      obtain ⟨a, b, c, hq, ia, ib, ic⟩ := HT.out
      have hfz := box_frozen hq 2; have hqc := box_cell hq 2 _ rfl
      have hqlt := box_lt hq
      have HT2 : Hid (∃ a b c : Int, (w5.setCell ⟨q, 2, none⟩ (.int .i64 z)).heap[q]? = some (.cells #[.int .i64 a, .int .i64 b, .int .i64 c] 46 (0, 0)) ∧ In64 a ∧ In64 b ∧ In64 c) := Lib.hid ⟨a, b, z, box_set hq 2 _, ia, ib, hzi⟩
      replace H6 := Lib.hid (box_other H6.out ⟨q, 2, none⟩ (.int .i64 z) (by simp; omega))
      replace HD := Lib.hid (HD.out.keepB ((Below.refl q _).setCell (p := ⟨q, 2, none⟩) (Nat.le_refl _) (.int .i64 z)) (by omega))
      replace HG := Lib.hid (HG.out.then ((Below.refl w.heap.size _).setCell (p := ⟨q, 2, none⟩) (by simp; omega) (.int .i64 z)))
      clear hq HT ia ib ic
      go_wp2_with fail
      clear hfz hqc
      have HT := Lib.hid HT2.out; clear HT2
      generalize (w5.setCell ⟨q, 2, none⟩ (.int .i64 z)) = w9 at *
      go_meet
      exact ⟨Lib.hid (HD.out.mono (by omega)), HG, H6, HT⟩
    · clear k0 k1
      go_wp2_with fail
      go_meet
      exact ⟨Lib.hid (HD.out.mono (by omega)), HG, H6, HT⟩
    · clear k0 k1
      go_wp2_with fail
      refine (pick_any W sv _ _ _ _ _ HD.out (by omega) (by omega) (by omega)).mono ?_
      rintro e w3 ⟨x, rfl, x0, x1, x2, hd, hg⟩
      replace x1 := x1 (by omega)
      replace HD := Lib.hid hd
      have HT' := Lib.hid HT.out; clear HT; have HT : Hid (∃ a b c : Int, w3.heap[q]? = some (.cells #[.int .i64 a, .int .i64 b, .int .i64 c] 46 (0, 0)) ∧ In64 a ∧ In64 b ∧ In64 c) := Lib.hid (by obtain ⟨a, b, c, h1, h2⟩ := HT'.out; exact ⟨a, b, c, box_chg h1 hg (.inl (by omega)), h2⟩)
      replace H6 := Lib.hid (box_chg H6.out hg (.inl (by omega)))
      replace HG := Lib.hid (HG.out.trans hg)
      have hz_w3 := hg.size
      clear hd hg HT' x2
      go_wp2_with fail
      have hrb_w3 := box_lt H6.out
      have HC : Hid (∀ j : Nat, j < 3 → ∃ z : Int, (w3.alloc (.cells #[.int .i64 (1 + x), .int .i64 8, .int .i64 20] 3)).cell? ⟨w3.heap.size, j, none⟩ = some (.int .i64 z) ∧ In64 z) := Lib.hid (by
        intro j hj
        rw [World.cell?_alloc_at _ _ _ _ rfl]
        match j, hj with
        | 0, _ => exact ⟨_, rfl, by unfold In64; omega⟩
        | 1, _ => exact ⟨_, rfl, by unfold In64; omega⟩
        | 2, _ => exact ⟨_, rfl, by unfold In64; omega⟩)
      have HSZ : Hid ((w3.alloc (.cells #[.int .i64 (1 + x), .int .i64 8, .int .i64 20] 3)).heap.size = w3.heap.size + 1) := Lib.hid (by simp)
      have HT' := Lib.hid HT.out; clear HT; have HT : Hid (∃ a b c : Int, (w3.alloc (.cells #[.int .i64 (1 + x), .int .i64 8, .int .i64 20] 3)).heap[q]? = some (.cells #[.int .i64 a, .int .i64 b, .int .i64 c] 46 (0, 0)) ∧ In64 a ∧ In64 b ∧ In64 c) := Lib.hid (by obtain ⟨a, b, c, h1, h2⟩ := HT'.out; exact ⟨a, b, c, box_alloc h1 _, h2⟩)
      replace HD := Lib.hid (HD.out.keep ((Below.refl _ _).alloc (Nat.le_refl _) (.cells #[.int .i64 (1 + x), .int .i64 8, .int .i64 20] 3)))
      replace H6 := Lib.hid (box_alloc H6.out (.cells #[.int .i64 (1 + x), .int .i64 8, .int .i64 20] 3))
      replace HG := Lib.hid (HG.out.alloc (.cells #[.int .i64 (1 + x), .int .i64 8, .int .i64 20] 3))
      clear HT'
      generalize (w3.alloc (.cells #[.int .i64 (1 + x), .int .i64 8, .int .i64 20] 3)) = w4 at *
      refine (pick_any W sv _ _ _ _ _ HD.out (by omega) (by omega) (by omega)).mono ?_
      rintro e w5 ⟨y, rfl, y0, y1, y2, hd, hg⟩
      replace y1 := y1 (by omega)
      replace HD := Lib.hid hd
      have HGP := Lib.hid hg
      have HT' := Lib.hid HT.out; clear HT; have HT : Hid (∃ a b c : Int, w5.heap[q]? = some (.cells #[.int .i64 a, .int .i64 b, .int .i64 c] 46 (0, 0)) ∧ In64 a ∧ In64 b ∧ In64 c) := Lib.hid (by obtain ⟨a, b, c, h1, h2⟩ := HT'.out; exact ⟨a, b, c, box_chg h1 hg (.inl (by omega)), h2⟩)
      replace H6 := Lib.hid (box_chg H6.out hg (.inl (by omega)))
      replace HG := Lib.hid (HG.out.trans hg)
      have hz_w5 := hg.size
      clear hd hg HT' y2
      obtain ⟨j, rfl⟩ := Int.eq_ofNat_of_zero_le y0
      obtain ⟨z, hz, hzi⟩ := HC.out j (by omega)
      have hz' : w5.cell? ⟨w3.heap.size, j, none⟩ = some (.int .i64 z) := by
        rw [World.cell?_of_block (HGP.out.block w3.heap.size (by rw [HSZ.out]; omega) (by omega))]; exact hz
      clear hz HC HSZ HGP
      obtain ⟨a, b, c, hq, ia, ib, ic⟩ := HT.out
      have hfz := box_frozen hq 2; have hqc := box_cell hq 2 _ rfl
      have hqlt := box_lt hq
      have HT2 : Hid (∃ a b c : Int, (w5.setCell ⟨q, 2, none⟩ (.int .i64 z)).heap[q]? = some (.cells #[.int .i64 a, .int .i64 b, .int .i64 c] 46 (0, 0)) ∧ In64 a ∧ In64 b ∧ In64 c) := Lib.hid ⟨a, b, z, box_set hq 2 _, ia, ib, hzi⟩
      replace H6 := Lib.hid (box_other H6.out ⟨q, 2, none⟩ (.int .i64 z) (by simp; omega))
      replace HD := Lib.hid (HD.out.keepB ((Below.refl q _).setCell (p := ⟨q, 2, none⟩) (Nat.le_refl _) (.int .i64 z)) (by omega))
      replace HG := Lib.hid (HG.out.then ((Below.refl w.heap.size _).setCell (p := ⟨q, 2, none⟩) (by simp; omega) (.int .i64 z)))
      clear hq HT ia ib ic
      go_wp2_with fail
      clear hfz hqc
      have HT := Lib.hid HT2.out; clear HT2
      generalize (w5.setCell ⟨q, 2, none⟩ (.int .i64 z)) = w9 at *
      go_meet
      exact ⟨Lib.hid (HD.out.mono (by omega)), HG, H6, HT⟩
  case rest =>
    obtain ⟨HD', HG', H6', HT'⟩ := hcut
    clear HD HG H6 HT k0 k1
    have HD := HD'; have HG := HG'; have H6 := H6'; have HT := HT'
    clear HD' HG' H6' HT'
    go_wp2_with fail
    refine (odd_any W sv _ _ _ n _ HD.out (by omega) hn0 hn).mono ?_
    rintro e wa ⟨t, rfl, ht, hd, hg⟩
    replace HD := Lib.hid hd
    have HT' := Lib.hid HT.out; clear HT; have HT : Hid (∃ a b c : Int, wa.heap[q]? = some (.cells #[.int .i64 a, .int .i64 b, .int .i64 c] 46 (0, 0)) ∧ In64 a ∧ In64 b ∧ In64 c) := Lib.hid (by obtain ⟨a, b, c, h1, h2⟩ := HT'.out; exact ⟨a, b, c, box_chg h1 hg (.inl (by omega)), h2⟩)
    replace H6 := Lib.hid (box_chg H6.out hg (.inl (by omega)))
    replace HG := Lib.hid (HG.out.trans hg)
    have hz_wa := hg.size
    clear hd hg HT' ht
    cases t
    · obtain ⟨a, b, c, hq, ia, ib, ic⟩ := HT.out
      have k0 := box_cell hq 0 _ rfl; have k1 := box_cell hq 1 _ rfl; have k2 := box_cell hq 2 _ rfl
      have f6 := box_frozen H6.out 0; have f7 := box_frozen H6.out 1; have f8 := box_frozen H6.out 2
      have l0 := box_cell H6.out 0 _ rfl; have l1 := box_cell H6.out 1 _ rfl; have l2 := box_cell H6.out 2 _ rfl
      have hqne : ¬ q = w.heap.size := by omega
      have hqlt := box_lt hq
      clear hq
      go_wp2_with fail
      exact bodyPost_ret (v := .agg #[.int .i64 a, .int .i64 b, .int .i64 c]) (by simp [results, Try.results70, go_sem, *]) rfl ⟨_, _, _, rfl, ⟨ia, ib, ic⟩, (HD.out.keepB ((((Below.refl w.heap.size wa).setCell (p := ⟨w.heap.size, 0, none⟩) (Nat.le_refl _) _).setCell (p := ⟨w.heap.size, 1, none⟩) (Nat.le_refl _) _).setCell (p := ⟨w.heap.size, 2, none⟩) (Nat.le_refl _) _) (by omega)).mono (by omega), HG.out.then ((((Below.refl w.heap.size wa).setCell (p := ⟨w.heap.size, 0, none⟩) (Nat.le_refl _) _).setCell (p := ⟨w.heap.size, 1, none⟩) (Nat.le_refl _) _).setCell (p := ⟨w.heap.size, 2, none⟩) (Nat.le_refl _) _)⟩
    · go_wp2_with fail
      refine (pick_any W sv _ _ _ _ _ HD.out (by omega) (by omega) (by omega)).mono ?_
      rintro e wb ⟨x9, rfl, x90, x91, x92, hd, hg⟩
      replace x91 := x91 (by omega)
      replace HD := Lib.hid hd
      have HT' := Lib.hid HT.out; clear HT; have HT : Hid (∃ a b c : Int, wb.heap[q]? = some (.cells #[.int .i64 a, .int .i64 b, .int .i64 c] 46 (0, 0)) ∧ In64 a ∧ In64 b ∧ In64 c) := Lib.hid (by obtain ⟨a, b, c, h1, h2⟩ := HT'.out; exact ⟨a, b, c, box_chg h1 hg (.inl (by omega)), h2⟩)
      replace H6 := Lib.hid (box_chg H6.out hg (.inl (by omega)))
      replace HG := Lib.hid (HG.out.trans hg)
      have hz_wb := hg.size
      clear hd hg HT' x92
      rcases (by omega : x9 = 0 ∨ x9 = 1 ∨ x9 = 2) with rfl | rfl | rfl
      · go_wp2_with fail
        have hrb_wb := box_lt H6.out
        have HC : Hid (∀ j : Nat, j < 2 → ∃ z : Int, (wb.alloc (.cells #[.int .i64 0, .int .i64 7] 3)).cell? ⟨wb.heap.size, j, none⟩ = some (.int .i64 z) ∧ In64 z) := Lib.hid (by
          intro j hj
          rw [World.cell?_alloc_at _ _ _ _ rfl]
          match j, hj with
          | 0, _ => exact ⟨_, rfl, by unfold In64; omega⟩
          | 1, _ => exact ⟨_, rfl, by unfold In64; omega⟩)
        have HSZ : Hid ((wb.alloc (.cells #[.int .i64 0, .int .i64 7] 3)).heap.size = wb.heap.size + 1) := Lib.hid (by simp)
        have HT' := Lib.hid HT.out; clear HT; have HT : Hid (∃ a b c : Int, (wb.alloc (.cells #[.int .i64 0, .int .i64 7] 3)).heap[q]? = some (.cells #[.int .i64 a, .int .i64 b, .int .i64 c] 46 (0, 0)) ∧ In64 a ∧ In64 b ∧ In64 c) := Lib.hid (by obtain ⟨a, b, c, h1, h2⟩ := HT'.out; exact ⟨a, b, c, box_alloc h1 _, h2⟩)
        replace HD := Lib.hid (HD.out.keep ((Below.refl _ _).alloc (Nat.le_refl _) (.cells #[.int .i64 0, .int .i64 7] 3)))
        replace H6 := Lib.hid (box_alloc H6.out (.cells #[.int .i64 0, .int .i64 7] 3))
        replace HG := Lib.hid (HG.out.alloc (.cells #[.int .i64 0, .int .i64 7] 3))
        clear HT'
        generalize (wb.alloc (.cells #[.int .i64 0, .int .i64 7] 3)) = wc at *
        refine (pick_any W sv _ _ _ _ _ HD.out (by omega) (by omega) (by omega)).mono ?_
        rintro e wd ⟨y9, rfl, y90, y91, y92, hd, hg⟩
        replace y91 := y91 (by omega)
        replace HD := Lib.hid hd
        have HGP := Lib.hid hg
        have HT' := Lib.hid HT.out; clear HT; have HT : Hid (∃ a b c : Int, wd.heap[q]? = some (.cells #[.int .i64 a, .int .i64 b, .int .i64 c] 46 (0, 0)) ∧ In64 a ∧ In64 b ∧ In64 c) := Lib.hid (by obtain ⟨a, b, c, h1, h2⟩ := HT'.out; exact ⟨a, b, c, box_chg h1 hg (.inl (by omega)), h2⟩)
        replace H6 := Lib.hid (box_chg H6.out hg (.inl (by omega)))
        replace HG := Lib.hid (HG.out.trans hg)
        have hz_wd := hg.size
        clear hd hg HT' y92
        obtain ⟨j, rfl⟩ := Int.eq_ofNat_of_zero_le y90
        obtain ⟨z, hz, hzi⟩ := HC.out j (by omega)
        have hz' : wd.cell? ⟨wb.heap.size, j, none⟩ = some (.int .i64 z) := by
          rw [World.cell?_of_block (HGP.out.block wb.heap.size (by rw [HSZ.out]; omega) (by omega))]; exact hz
        clear hz HC HSZ HGP
        obtain ⟨a, b, c, hq, ia, ib, ic⟩ := HT.out
        have hfz := box_frozen hq 0
        have k0 := box_cell hq 0 _ rfl; have k1 := box_cell hq 1 _ rfl; have k2 := box_cell hq 2 _ rfl
        have f6 := box_frozen H6.out 0; have f7 := box_frozen H6.out 1; have f8 := box_frozen H6.out 2
        have l0 := box_cell H6.out 0 _ rfl; have l1 := box_cell H6.out 1 _ rfl; have l2 := box_cell H6.out 2 _ rfl
        have hqne : ¬ q = w.heap.size := by omega
        have hqlt := box_lt hq
        clear hq
        go_wp2_with fail
        exact bodyPost_ret (v := .agg #[.int .i64 z, .int .i64 b, .int .i64 c]) (by simp [results, Try.results70, go_sem, *]) rfl ⟨_, _, _, rfl, ⟨hzi, ib, ic⟩, (HD.out.keepB (((((Below.refl w.heap.size wd).setCell (p := ⟨q, 0, none⟩) (by simp; omega) _).setCell (p := ⟨w.heap.size, 0, none⟩) (Nat.le_refl _) _).setCell (p := ⟨w.heap.size, 1, none⟩) (Nat.le_refl _) _).setCell (p := ⟨w.heap.size, 2, none⟩) (Nat.le_refl _) _) (by omega)).mono (by omega), HG.out.then (((((Below.refl w.heap.size wd).setCell (p := ⟨q, 0, none⟩) (by simp; omega) _).setCell (p := ⟨w.heap.size, 0, none⟩) (Nat.le_refl _) _).setCell (p := ⟨w.heap.size, 1, none⟩) (Nat.le_refl _) _).setCell (p := ⟨w.heap.size, 2, none⟩) (Nat.le_refl _) _)⟩
      · go_wp2_with fail
        have hrb_wb := box_lt H6.out
        have HC : Hid (∀ j : Nat, j < 2 → ∃ z : Int, (wb.alloc (.cells #[.int .i64 (-1), .int .i64 16] 3)).cell? ⟨wb.heap.size, j, none⟩ = some (.int .i64 z) ∧ In64 z) := Lib.hid (by
          intro j hj
          rw [World.cell?_alloc_at _ _ _ _ rfl]
          match j, hj with
          | 0, _ => exact ⟨_, rfl, by unfold In64; omega⟩
          | 1, _ => exact ⟨_, rfl, by unfold In64; omega⟩)
        have HSZ : Hid ((wb.alloc (.cells #[.int .i64 (-1), .int .i64 16] 3)).heap.size = wb.heap.size + 1) := Lib.hid (by simp)
        have HT' := Lib.hid HT.out; clear HT; have HT : Hid (∃ a b c : Int, (wb.alloc (.cells #[.int .i64 (-1), .int .i64 16] 3)).heap[q]? = some (.cells #[.int .i64 a, .int .i64 b, .int .i64 c] 46 (0, 0)) ∧ In64 a ∧ In64 b ∧ In64 c) := Lib.hid (by obtain ⟨a, b, c, h1, h2⟩ := HT'.out; exact ⟨a, b, c, box_alloc h1 _, h2⟩)
        replace HD := Lib.hid (HD.out.keep ((Below.refl _ _).alloc (Nat.le_refl _) (.cells #[.int .i64 (-1), .int .i64 16] 3)))
        replace H6 := Lib.hid (box_alloc H6.out (.cells #[.int .i64 (-1), .int .i64 16] 3))
        replace HG := Lib.hid (HG.out.alloc (.cells #[.int .i64 (-1), .int .i64 16] 3))
        clear HT'
        generalize (wb.alloc (.cells #[.int .i64 (-1), .int .i64 16] 3)) = wc at *
        refine (pick_any W sv _ _ _ _ _ HD.out (by omega) (by omega) (by omega)).mono ?_
        rintro e wd ⟨y9, rfl, y90, y91, y92, hd, hg⟩
        replace y91 := y91 (by omega)
        replace HD := Lib.hid hd
        have HGP := Lib.hid hg
        have HT' := Lib.hid HT.out; clear HT; have HT : Hid (∃ a b c : Int, wd.heap[q]? = some (.cells #[.int .i64 a, .int .i64 b, .int .i64 c] 46 (0, 0)) ∧ In64 a ∧ In64 b ∧ In64 c) := Lib.hid (by obtain ⟨a, b, c, h1, h2⟩ := HT'.out; exact ⟨a, b, c, box_chg h1 hg (.inl (by omega)), h2⟩)
        replace H6 := Lib.hid (box_chg H6.out hg (.inl (by omega)))
        replace HG := Lib.hid (HG.out.trans hg)
        have hz_wd := hg.size
        clear hd hg HT' y92
        obtain ⟨j, rfl⟩ := Int.eq_ofNat_of_zero_le y90
        obtain ⟨z, hz, hzi⟩ := HC.out j (by omega)
        have hz' : wd.cell? ⟨wb.heap.size, j, none⟩ = some (.int .i64 z) := by
          rw [World.cell?_of_block (HGP.out.block wb.heap.size (by rw [HSZ.out]; omega) (by omega))]; exact hz
        clear hz HC HSZ HGP
        obtain ⟨a, b, c, hq, ia, ib, ic⟩ := HT.out
        have hfz := box_frozen hq 1
        have k0 := box_cell hq 0 _ rfl; have k1 := box_cell hq 1 _ rfl; have k2 := box_cell hq 2 _ rfl
        have f6 := box_frozen H6.out 0; have f7 := box_frozen H6.out 1; have f8 := box_frozen H6.out 2
        have l0 := box_cell H6.out 0 _ rfl; have l1 := box_cell H6.out 1 _ rfl; have l2 := box_cell H6.out 2 _ rfl
        have hqne : ¬ q = w.heap.size := by omega
        have hqlt := box_lt hq
        clear hq
        go_wp2_with fail
        exact bodyPost_ret (v := .agg #[.int .i64 a, .int .i64 z, .int .i64 c]) (by simp [results, Try.results70, go_sem, *]) rfl ⟨_, _, _, rfl, ⟨ia, hzi, ic⟩, (HD.out.keepB (((((Below.refl w.heap.size wd).setCell (p := ⟨q, 1, none⟩) (by simp; omega) _).setCell (p := ⟨w.heap.size, 0, none⟩) (Nat.le_refl _) _).setCell (p := ⟨w.heap.size, 1, none⟩) (Nat.le_refl _) _).setCell (p := ⟨w.heap.size, 2, none⟩) (Nat.le_refl _) _) (by omega)).mono (by omega), HG.out.then (((((Below.refl w.heap.size wd).setCell (p := ⟨q, 1, none⟩) (by simp; omega) _).setCell (p := ⟨w.heap.size, 0, none⟩) (Nat.le_refl _) _).setCell (p := ⟨w.heap.size, 1, none⟩) (Nat.le_refl _) _).setCell (p := ⟨w.heap.size, 2, none⟩) (Nat.le_refl _) _)⟩
      · go_wp2_with fail
        have hrb_wb := box_lt H6.out
        have HC : Hid (∀ j : Nat, j < 2 → ∃ z : Int, (wb.alloc (.cells #[.int .i64 (-1), .int .i64 21] 3)).cell? ⟨wb.heap.size, j, none⟩ = some (.int .i64 z) ∧ In64 z) := Lib.hid (by
          intro j hj
          rw [World.cell?_alloc_at _ _ _ _ rfl]
          match j, hj with
          | 0, _ => exact ⟨_, rfl, by unfold In64; omega⟩
          | 1, _ => exact ⟨_, rfl, by unfold In64; omega⟩)
        have HSZ : Hid ((wb.alloc (.cells #[.int .i64 (-1), .int .i64 21] 3)).heap.size = wb.heap.size + 1) := Lib.hid (by simp)
        have HT' := Lib.hid HT.out; clear HT; have HT : Hid (∃ a b c : Int, (wb.alloc (.cells #[.int .i64 (-1), .int .i64 21] 3)).heap[q]? = some (.cells #[.int .i64 a, .int .i64 b, .int .i64 c] 46 (0, 0)) ∧ In64 a ∧ In64 b ∧ In64 c) := Lib.hid (by obtain ⟨a, b, c, h1, h2⟩ := HT'.out; exact ⟨a, b, c, box_alloc h1 _, h2⟩)
        replace HD := Lib.hid (HD.out.keep ((Below.refl _ _).alloc (Nat.le_refl _) (.cells #[.int .i64 (-1), .int .i64 21] 3)))
        replace H6 := Lib.hid (box_alloc H6.out (.cells #[.int .i64 (-1), .int .i64 21] 3))
        replace HG := Lib.hid (HG.out.alloc (.cells #[.int .i64 (-1), .int .i64 21] 3))
        clear HT'
        generalize (wb.alloc (.cells #[.int .i64 (-1), .int .i64 21] 3)) = wc at *
        refine (pick_any W sv _ _ _ _ _ HD.out (by omega) (by omega) (by omega)).mono ?_
        rintro e wd ⟨y9, rfl, y90, y91, y92, hd, hg⟩
        replace y91 := y91 (by omega)
        replace HD := Lib.hid hd
        have HGP := Lib.hid hg
        have HT' := Lib.hid HT.out; clear HT; have HT : Hid (∃ a b c : Int, wd.heap[q]? = some (.cells #[.int .i64 a, .int .i64 b, .int .i64 c] 46 (0, 0)) ∧ In64 a ∧ In64 b ∧ In64 c) := Lib.hid (by obtain ⟨a, b, c, h1, h2⟩ := HT'.out; exact ⟨a, b, c, box_chg h1 hg (.inl (by omega)), h2⟩)
        replace H6 := Lib.hid (box_chg H6.out hg (.inl (by omega)))
        replace HG := Lib.hid (HG.out.trans hg)
        have hz_wd := hg.size
        clear hd hg HT' y92
        obtain ⟨j, rfl⟩ := Int.eq_ofNat_of_zero_le y90
        obtain ⟨z, hz, hzi⟩ := HC.out j (by omega)
        have hz' : wd.cell? ⟨wb.heap.size, j, none⟩ = some (.int .i64 z) := by
          rw [World.cell?_of_block (HGP.out.block wb.heap.size (by rw [HSZ.out]; omega) (by omega))]; exact hz
        clear hz HC HSZ HGP
        obtain ⟨a, b, c, hq, ia, ib, ic⟩ := HT.out
        have hfz := box_frozen hq 2
        have k0 := box_cell hq 0 _ rfl; have k1 := box_cell hq 1 _ rfl; have k2 := box_cell hq 2 _ rfl
        have f6 := box_frozen H6.out 0; have f7 := box_frozen H6.out 1; have f8 := box_frozen H6.out 2
        have l0 := box_cell H6.out 0 _ rfl; have l1 := box_cell H6.out 1 _ rfl; have l2 := box_cell H6.out 2 _ rfl
        have hqne : ¬ q = w.heap.size := by omega
        have hqlt := box_lt hq
        clear hq
        go_wp2_with fail
        exact bodyPost_ret (v := .agg #[.int .i64 a, .int .i64 b, .int .i64 z]) (by simp [results, Try.results70, go_sem, *]) rfl ⟨_, _, _, rfl, ⟨ia, ib, hzi⟩, (HD.out.keepB (((((Below.refl w.heap.size wd).setCell (p := ⟨q, 2, none⟩) (by simp; omega) _).setCell (p := ⟨w.heap.size, 0, none⟩) (Nat.le_refl _) _).setCell (p := ⟨w.heap.size, 1, none⟩) (Nat.le_refl _) _).setCell (p := ⟨w.heap.size, 2, none⟩) (Nat.le_refl _) _) (by omega)).mono (by omega), HG.out.then (((((Below.refl w.heap.size wd).setCell (p := ⟨q, 2, none⟩) (by simp; omega) _).setCell (p := ⟨w.heap.size, 0, none⟩) (Nat.le_refl _) _).setCell (p := ⟨w.heap.size, 1, none⟩) (Nat.le_refl _) _).setCell (p := ⟨w.heap.size, 2, none⟩) (Nat.le_refl _) _)⟩

set_option maxRecDepth 100000 in
theorem DrawProgramValid_any (W : World) (va : Value) (bs : List Int) (hr : Rd W 1 va bs.length (bys bs)) (hg : ∀ x ∈ bs, 0 ≤ x ∧ x ≤ 255) :
    Calls Try.prog 33 #[va] W fun e w' => ∃ a b c : Int, e = .returned (.agg #[.int .i64 a, .int .i64 b, .int .i64 c]) ∧ (In64 a ∧ In64 b ∧ In64 c) ∧ Below W.heap.size W w' := by
  have HO := Lib.hid (open_any W va bs (W.alloc (.cells #[.int .i64 0, .int .i64 0, .int .i64 0] 46)) hr hg ((Below.refl _ _).alloc (Nat.le_refl _) _)); clear hr hg
  go_enter Try.func33, Try.ntmps33
  go_wp2_with fail
  refine HO.out.mono ?_
  rintro e w1 ⟨sv, bs', rfl, hd, hb1, hs1⟩
  have H6 := Lib.hid (box_keep (heap_alloc_new W (.cells #[.int .i64 0, .int .i64 0, .int .i64 0] 46)) hb1)
  have HD := Lib.hid hd; clear hd HO
  simp only [World.size_alloc] at HD hs1
  go_wp2_with fail
  refine (l20Program_any W sv bs' _ _ _ _ _ HD.out (by omega) (by omega) (by omega) (by omega) (by omega)).mono ?_
  rintro e w2 ⟨a, b, c, rfl, hin, hd2, hg2⟩
  replace H6 := Lib.hid (box_chg H6.out hg2 (.inr (by omega)))
  have HB := Lib.hid hd2.below
  have HIN := Lib.hid hin
  clear hd2 hg2 hb1 hin
  have f6 := box_frozen H6.out 0; have f7 := box_frozen H6.out 1; have f8 := box_frozen H6.out 2
  have l0 := box_cell H6.out 0 _ rfl; have l1 := box_cell H6.out 1 _ rfl; have l2 := box_cell H6.out 2 _ rfl
  go_wp2_with fail
  exact bodyPost_ret (v := .agg #[.int .i64 a, .int .i64 b, .int .i64 c]) (by simp [results, Try.results33, go_sem, *]) rfl ⟨_, _, _, rfl, HIN.out, ((HB.out.setCell (Nat.le_refl _) _).setCell (Nat.le_refl _) _).setCell (Nat.le_refl _) _⟩
end Go.Proofs.Ytddhnngaopjjnaa
