/-
  The state at the start: the program's function and the reference's.
-/
import Derived.Test.YtgdggkhdollieaaState
import Derived.Test.YtgdggkhdollieaaNum
import Derived.Test.YtgdggkhdollieaaGraphV
import Derived.Test.YtgdggkhdollieaaApp
import Derived.Deep.RegionLaw
namespace Go.Proofs.Ytgdggkhdollieaa
open Go.RowKit
set_option linter.unusedVariables false

def startState (many : Int) : StateD := if 0 ≤ many ∧ many ≤ 16 then (0, List.replicate many.toNat 0, List.replicate many.toNat true, []) else (0, [], [], [])
theorem startState_yes (n : Nat) (h : n ≤ 16) : startState (n : Int) = (0, List.replicate n 0, List.replicate n true, []) := by
  unfold startState; rw [if_pos ⟨by omega, by omega⟩, Int.toNat_natCast]
theorem startState_no {many : Int} (h : ¬ (0 ≤ many ∧ many ≤ 16)) : startState many = (0, [], [], []) := if_neg h
def RetState (w : World) (s : StateD) (e : Ending) (w' : World) : Prop := ∃ v, e = .returned v ∧ OwState w.heap.size w'.heap.size w' v s ∧ Below w.heap.size w w'
theorem OwState.none {lo hi : Nat} {w : World} : OwState lo hi w (.agg #[.int .i64 0, .slice none 0 0, .slice none 0 0, .slice none 0 0]) (0, [], [], []) :=
  ⟨_, _, _, rfl, Ow.nil _ _ _ _ _ _, Ow.nil _ _ _ _ _ _, Ow.nil _ _ _ _ _ _⟩
theorem own_block {w w' : World} {base b n c s : Nat} {e : TypeId} {cs : List Value} (h : w.ownsRow base e s (.slice (some ⟨b, 0, none⟩) n c) n cs) (hb : w'.heap[b]? = w.heap[b]?) : w'.ownsRow base e s (.slice (some ⟨b, 0, none⟩) n c) n cs := by
  refine ⟨h.1, ?_⟩
  rcases h.2 with h2 | ⟨g, cap, cur, hv, hbg, hg, r⟩
  · exact .inl h2
  · have hgb : g = b := by simp only [Value.slice.injEq, Option.some.injEq, Addr.mk.injEq] at hv; exact hv.1.1.symm
    subst hgb
    exact .inr ⟨g, cap, cur, hv, hbg, hb.trans hg, r⟩
theorem three_boxes (w : World) (X Y Z : Obj) : (((w.alloc X).alloc Y).alloc Z).drew.heap[w.heap.size]? = some X ∧ (((w.alloc X).alloc Y).alloc Z).drew.heap[w.heap.size + 1]? = some Y ∧ (((w.alloc X).alloc Y).alloc Z).drew.heap[w.heap.size + 1 + 1]? = some Z ∧ Below w.heap.size w (((w.alloc X).alloc Y).alloc Z).drew := by
  have h1 := box_alloc (box_alloc (heap_alloc_new w X) Y) Z
  have h2 := box_alloc (heap_alloc_new (w.alloc X) Y) Z
  have h3 := heap_alloc_new ((w.alloc X).alloc Y) Z
  simp only [World.size_alloc] at h2 h3
  exact ⟨h1, h2, h3, by go_grown⟩
theorem row_of_heap {w : World} {q n : Nat} {A : Array Value} {e : TypeId} {L : List Value} (h : w.heap[q]? = some (.cells A e (0, 0))) (hs : A.size = n) (hn : n ≤ maxLen) (hl : A.toList = L) : w.ownsRow q e 1 (.slice (some ⟨q, 0, none⟩) n n) n L :=
  ⟨by rw [← hl]; simp [hs], .inr ⟨q, n, A, rfl, Nat.le_refl _, h, Nat.le_refl _, hn, by simp [hs], by rw [← hl, List.take_of_length_le (by simp [hs])]⟩⟩
section
variable {P : Program}
theorem make_eq {t e : TypeId} {z : Value} {bytes n : Nat} (ht : P.underlying t = some (.slice e)) (hinfo : (P.info? e).map (fun i => (i.zero, i.size, i.bytes)) = some (some z, 1, bytes)) (hby : bytes ≤ 64) (hn : n ≤ 1099511627776) (hz : z.cells = #[z]) :
    ∃ A : Array Value, A.size = n ∧ A.toList = List.replicate n z ∧ ∀ w : World, (Instr.makeSlice t (.int .i64 (n : Int)) (.int .i64 (n : Int))).run P w = .ok (.slice (some ⟨w.heap.size, 0, none⟩) n n) (w.alloc (.cells A e)) := by
  obtain ⟨i, hi, h0, h1, h2⟩ := info_parts hinfo
  refine ⟨madeCells z.cells (n * 1), by simp [size_madeCells], by rw [hz, Nat.mul_one]; simpa using toList_madeCells_one z n, fun w => ?_⟩
  have hb' : (i.bytes : Int) * (n : Int) ≤ 281474976710656 := by
    rw [h2]
    have : bytes * n ≤ 64 * 1099511627776 := Nat.mul_le_mul hby hn
    have h3 : ((bytes * n : Nat) : Int) ≤ 281474976710656 := by omega
    rwa [Int.natCast_mul] at h3
  have hr := run_make (P := P) w t e i z ht hi h0 .i64 .i64 n n (by omega) (Int.le_refl _) hb' (by omega)
  simp only [Int.toNat_natCast, h1] at hr
  exact hr
end

set_option maxRecDepth 100000 in
set_option maxHeartbeats 4000000 in
theorem specStartState_any (w : World) (many : Int) : Calls Try.prog 25 #[.int .i64 many] w (RetState w (startState many)) := by
  by_cases hv : 0 ≤ many ∧ many ≤ 16
  · obtain ⟨n, rfl⟩ := Int.eq_ofNat_of_zero_le hv.1
    have hn : n ≤ 16 := by omega
    rw [startState_yes n hn]
    have CI := Lib.hid fun wx => l1In_is (n : Int) 0 16 wx true (by simp; omega)
    clear hv
    have HRS := Lib.hid fun k => (List.replicate_succ' (n := k) (a := true))
    obtain ⟨i0, hi, hz0, hz1, hz2⟩ := info_parts infoInt
    have Hi := Lib.hid hi; have Hz0 := Lib.hid hz0; have Hz1 := Lib.hid hz1; have Hz2 := Lib.hid hz2; clear hi hz0 hz1 hz2
    have B0 := Lib.hid (heap_alloc_new w (.cells #[.int .i64 0, .slice none 0 0, .slice none 0 0, .slice none 0 0] 41))
    have HB : Hid (Below w.heap.size w (w.alloc (.cells #[.int .i64 0, .slice none 0 0, .slice none 0 0, .slice none 0 0] 41))) := Lib.hid (by go_grown)
    go_enter Try.func25, Try.ntmps25
    go_wp2_with fail
    have hsz0 : Hid ((w.alloc (.cells #[.int .i64 0, .slice none 0 0, .slice none 0 0, .slice none 0 0] 41)).heap.size = w.heap.size + 1) := Lib.hid (by simp)
    generalize (w.alloc (.cells #[.int .i64 0, .slice none 0 0, .slice none 0 0, .slice none 0 0] 41)) = w0 at *
    refine (CI.out _).mono ?_
    rintro e w1 ⟨rfl, rfl⟩
    clear CI
    go_wp2_with (at_make; refine wpList_make_full _ rfl _ _ 23 rfl w0.heap.size 3 i0 (.int .i64 0) 1 Try.underlying23 Hi.out Hz0.out Hz1.out _ _ _ _ n rfl rfl rfl rfl (by rw [Hz2.out]; omega) (by unfold maxLen; omega) (Nat.le_refl _) ?_)
    intro w2 hown hgrow
    rw [toList_madeCells_one] at hown
    have HV : Hid (w2.ownsRow w0.heap.size 3 1 (.slice (some ⟨w0.heap.size, 0, none⟩) n n) n (ints (List.replicate n 0))) := Lib.hid (by rw [show ints (List.replicate n 0) = List.replicate n (.int .i64 0) from by simp [ints]]; exact hown)
    replace HB := Lib.hid (HB.out.grown hgrow HB.out.size (by intro k hk; cases hk))
    replace B0 := Lib.hid ((hgrow.block _ (box_lt B0.out) (by simp)).trans B0.out)
    have hs2 := (hown.lt _ rfl).2
    clear hown hgrow
    have HO := Lib.hid (World.ownsRow_nil (w2.alloc (.cells #[.int .i64 0, .slice (some ⟨w0.heap.size, 0, none⟩) n n, .slice none 0 0, .slice none 0 0] 41)) (w2.heap.size + 1) 4 1)
    have B1 := Lib.hid (heap_alloc_new w2 (.cells #[.int .i64 0, .slice (some ⟨w0.heap.size, 0, none⟩) n n, .slice none 0 0, .slice none 0 0] 41))
    have hal : Below w2.heap.size w2 (w2.alloc (.cells #[.int .i64 0, .slice (some ⟨w0.heap.size, 0, none⟩) n n, .slice none 0 0, .slice none 0 0] 41)) := (Below.refl _ _).alloc (Nat.le_refl _) _
    replace HV := Lib.hid (ownsRow_keep HV.out hal)
    replace HB := Lib.hid (HB.out.tr hal)
    replace B0 := Lib.hid (box_keep B0.out hal)
    clear hal
    go_wp2_with fail
    generalize (w2.alloc (.cells #[.int .i64 0, .slice (some ⟨w0.heap.size, 0, none⟩) n n, .slice none 0 0, .slice none 0 0] 41)) = w3 at *
    generalize hp : w2.heap.size = p at *
    generalize hq : w0.heap.size = q at *
    have HPQ : Hid (q < p ∧ q = w.heap.size + 1) := Lib.hid ⟨hs2, hsz0.out⟩
    clear hp hq hs2 hsz0
    go_loopw [4] (fun i wr => ∃ (t : Nat) (gv : Value), t ≤ n ∧ i = .int .i64 t ∧ Hid (wr.heap[p]? = some (.cells #[.int .i64 0, .slice (some ⟨q, 0, none⟩) n n, gv, .slice none 0 0] 41 (0, 0))) ∧ Hid (wr.ownsRow (p + 1) 4 1 gv t (bools (List.replicate t true))) ∧ Hid (wr.ownsRow q 3 1 (.slice (some ⟨q, 0, none⟩) n n) n (ints (List.replicate n 0))) ∧ Hid (wr.heap[w.heap.size]? = some (.cells #[.int .i64 0, .slice none 0 0, .slice none 0 0, .slice none 0 0] 41 (0, 0))) ∧ Hid (Below w.heap.size w wr)) (fun i _ => n - (intOf i).toNat)
    case atStart => exact ⟨0, _, Nat.zero_le _, rfl, B1, HO, HV, B0, HB⟩
    case round =>
      clear B1 HO HV B0 HB
      obtain ⟨t, gv, ht, rfl, B1, HO, HV, B0, HB⟩ := hrel
      have hpl := box_lt B1.out
      by_cases hlt : t < n
      · have k2 := box_cell B1.out 2 _ rfl
        go_wp2_with (at_builtin; refine wpList_pushB rfl _ _ 39 4 rfl (.bool false) 1 1 Try.underlying39 infoBool rfl (by decide) (by decide) #[.bool true] rfl (by simp [Value.oneCell']) (p + 1) _ _ _ HO.out rfl rfl (by omega) (by omega) ?_; intro v' w9 hown1 hbel1 hne1; obtain ⟨a9, c9, rfl, -, -⟩ := (Rd.of_own hown1).form; have C1 := Lib.hid ((hbel1.block _ (by omega)).trans B1.out); have l2 := box_cell C1.out 2 gv rfl; have m2 := box_frozen C1.out 2)
        go_roundw
        case rel =>
          have hpq := HPQ.out
          have hc : Chg p (p + 1) w9 (w9.setCell ⟨p, 2, none⟩ (.slice a9 (t + 1) c9)) := Chg.setCell (p := ⟨p, 2, none⟩) (by simp) (by simp) _
          refine ⟨t + 1, _, by omega, by go_num, Lib.hid (box_set C1.out 2 _), Lib.hid ?_, Lib.hid (own_block (own_block HV.out (hbel1.block q (by omega))) (hc.block q (by have := hbel1.size; omega) (.inl (by omega)))), Lib.hid ((hc.block _ (by have := hbel1.size; omega) (.inl (by omega))).trans ((hbel1.block _ (by omega)).trans B0.out)), Lib.hid (hc.below (HB.out.trans (hbel1.mono (by omega))) (by omega))⟩
          rw [HRS.out, bools_append]
          exact ownsRow_chg hown1 hc (Nat.le_refl _)
        case measure => simp [intOf]; omega
      · obtain rfl : t = n := by omega
        obtain ⟨a9, c9, rfl, -, -⟩ := (Rd.of_own HO.out).form
        have k0 := box_cell B1.out 0 (.int .i64 0) rfl; have k1 := box_cell B1.out 1 (.slice (some ⟨q, 0, none⟩) t t) rfl; have k2 := box_cell B1.out 2 (.slice a9 t c9) rfl; have k3 := box_cell B1.out 3 (.slice none 0 0) rfl
        have j0 := box_cell B0.out 0 _ rfl; have j1 := box_cell B0.out 1 _ rfl; have j2 := box_cell B0.out 2 _ rfl; have j3 := box_cell B0.out 3 _ rfl
        have f0 := box_frozen B0.out 0; have f1 := box_frozen B0.out 1; have f2 := box_frozen B0.out 2; have f3 := box_frozen B0.out 3
        have hz : w.heap.size < wr.heap.size := box_lt B0.out
        go_wp2_with fail
        have hK : Chg w.heap.size (w.heap.size + 1) wr ((((wr.setCell ⟨w.heap.size, 0, none⟩ (.int .i64 0)).setCell ⟨w.heap.size, 1, none⟩ (.slice (some ⟨q, 0, none⟩) t t)).setCell ⟨w.heap.size, 2, none⟩ (.slice a9 t c9)).setCell ⟨w.heap.size, 3, none⟩ (.slice none 0 0)) :=
          (((Chg.setCell (p := ⟨w.heap.size, 0, none⟩) (by simp) (by simp) _).trans (Chg.setCell (p := ⟨w.heap.size, 1, none⟩) (by simp) (by simp) _)).trans (Chg.setCell (p := ⟨w.heap.size, 2, none⟩) (by simp) (by simp) _)).trans (Chg.setCell (p := ⟨w.heap.size, 3, none⟩) (by simp) (by simp) _)
        have hpq := HPQ.out
        refine bodyPost_ret (v := .agg #[.int .i64 0, .slice (some ⟨q, 0, none⟩) t t, .slice a9 t c9, .slice none 0 0]) (by simp [results, Try.results25, go_sem, j0, j1, j2, j3]) rfl ⟨_, rfl, ⟨_, _, _, rfl, ?_, ?_, Ow.nil _ _ _ _ _ _⟩, hK.below HB.out (Nat.le_refl _)⟩
        · have h := ((Ow.of_row HV.out).chg hK (.inl (by omega))).mono (show w.heap.size ≤ q by omega) (show wr.heap.size ≤ ((((wr.setCell ⟨w.heap.size, 0, none⟩ (.int .i64 0)).setCell ⟨w.heap.size, 1, none⟩ (.slice (some ⟨q, 0, none⟩) t t)).setCell ⟨w.heap.size, 2, none⟩ (.slice a9 t c9)).setCell ⟨w.heap.size, 3, none⟩ (.slice none 0 0)).heap.size from hK.size)
          simpa [OwIntS] using h
        · have h := ((Ow.of_row HO.out).chg hK (.inl (by omega))).mono (show w.heap.size ≤ p + 1 by omega) (show wr.heap.size ≤ ((((wr.setCell ⟨w.heap.size, 0, none⟩ (.int .i64 0)).setCell ⟨w.heap.size, 1, none⟩ (.slice (some ⟨q, 0, none⟩) t t)).setCell ⟨w.heap.size, 2, none⟩ (.slice a9 t c9)).setCell ⟨w.heap.size, 3, none⟩ (.slice none 0 0)).heap.size from hK.size)
          simpa [OwBoolS] using h
  · rw [startState_no hv]
    have CI := Lib.hid fun wx => l1In_is many 0 16 wx false (by simp; omega)
    clear hv
    have B0 := Lib.hid (heap_alloc_new w (.cells #[.int .i64 0, .slice none 0 0, .slice none 0 0, .slice none 0 0] 41))
    have HB : Hid (Below w.heap.size w (w.alloc (.cells #[.int .i64 0, .slice none 0 0, .slice none 0 0, .slice none 0 0] 41))) := Lib.hid (by go_grown)
    go_enter Try.func25, Try.ntmps25
    go_wp2_with fail
    generalize (w.alloc (.cells #[.int .i64 0, .slice none 0 0, .slice none 0 0, .slice none 0 0] 41)) = w0 at *
    refine (CI.out _).mono ?_
    rintro e w1 ⟨rfl, rfl⟩
    clear CI
    have k0 := box_cell B0.out 0 _ rfl; have k1 := box_cell B0.out 1 _ rfl; have k2 := box_cell B0.out 2 _ rfl; have k3 := box_cell B0.out 3 _ rfl
    have f0 := box_frozen B0.out 0; have f1 := box_frozen B0.out 1; have f2 := box_frozen B0.out 2; have f3 := box_frozen B0.out 3
    go_wp2_with fail
    have hK : Chg w.heap.size (w.heap.size + 1) w0 ((((w0.setCell ⟨w.heap.size, 0, none⟩ (.int .i64 0)).setCell ⟨w.heap.size, 1, none⟩ (.slice none 0 0)).setCell ⟨w.heap.size, 2, none⟩ (.slice none 0 0)).setCell ⟨w.heap.size, 3, none⟩ (.slice none 0 0)) :=
      (((Chg.setCell (p := ⟨w.heap.size, 0, none⟩) (by simp) (by simp) _).trans (Chg.setCell (p := ⟨w.heap.size, 1, none⟩) (by simp) (by simp) _)).trans (Chg.setCell (p := ⟨w.heap.size, 2, none⟩) (by simp) (by simp) _)).trans (Chg.setCell (p := ⟨w.heap.size, 3, none⟩) (by simp) (by simp) _)
    exact bodyPost_ret (v := .agg #[.int .i64 0, .slice none 0 0, .slice none 0 0, .slice none 0 0]) (by simp [results, Try.results25, go_sem, k0, k1, k2, k3]) rfl ⟨_, rfl, OwState.none, hK.below HB.out (Nat.le_refl _)⟩

set_option maxRecDepth 100000 in
set_option maxHeartbeats 4000000 in
theorem implStartState_any (w : World) (many : Int) : Calls Try.prog 26 #[.int .i64 many] w (RetState w (startState many)) := by
  have B0 := Lib.hid (heap_alloc_new w (.cells #[.int .i64 0, .slice none 0 0, .slice none 0 0, .slice none 0 0] 41))
  have HB : Hid (Below w.heap.size w (w.alloc (.cells #[.int .i64 0, .slice none 0 0, .slice none 0 0, .slice none 0 0] 41))) := Lib.hid (by go_grown)
  by_cases hv : 0 ≤ many ∧ many ≤ 16
  · obtain ⟨n, rfl⟩ := Int.eq_ofNat_of_zero_le hv.1
    have hn : n ≤ 16 := by omega
    rw [startState_yes n hn]
    have E1 : decide ((n : Int) < 0) = false := by simp
    have E2 : decide ((n : Int) > 16) = false := by simp; omega
    clear hv
    have HN : Hid ((List.replicate n true).length = n) := Lib.hid (by simp)
    have HG : Hid (∀ k, k < n → (List.replicate n true).getD k false = true) := Lib.hid fun k hk => by simp [hk]
    have HZ : Hid (ints (List.replicate n 0) = List.replicate n (.int .i64 0)) := Lib.hid (by simp [ints])
    generalize List.replicate n true = xs at *
    obtain ⟨A1, hs1, hl1, m1⟩ := make_eq (P := Try.prog) (n := n) Try.underlying23 infoInt (by decide) (by omega) rfl
    obtain ⟨A2, hs2, hl2, m2⟩ := make_eq (P := Try.prog) (n := n) Try.underlying39 infoBool (by decide) (by omega) rfl
    have M1 := Lib.hid m1; have M2 := Lib.hid m2; clear m1 m2
    have HS1 := Lib.hid hs1; have HS2 := Lib.hid hs2; have HL1 := Lib.hid hl1; have HL2 := Lib.hid hl2; clear hs1 hs2 hl1 hl2
    go_enter Try.func26, Try.ntmps26
    go_wp2_with fail
    generalize (w.alloc (.cells #[.int .i64 0, .slice none 0 0, .slice none 0 0, .slice none 0 0] 41)) = w0 at *
    have hM1 := M1.out; have hM2 := M2.out
    go_region_law (fail)
    all_goals clear hM1 hM2 M1 M2
    · have T3 := three_boxes w0 (.cells A1 3) (.cells A2 4) (.cells #[.int .i64 0, .slice (some ⟨w0.heap.size, 0, none⟩) n n, .slice (some ⟨w0.heap.size + 1, 0, none⟩) n n, .slice none 0 0] 41)
      have hw0 := box_lt B0.out
      generalize (((w0.alloc (.cells A1 3)).alloc (.cells A2 4)).alloc (.cells #[.int .i64 0, .slice (some ⟨w0.heap.size, 0, none⟩) n n, .slice (some ⟨w0.heap.size + 1, 0, none⟩) n n, .slice none 0 0] 41)).drew = wf at *
      obtain ⟨b1, b2, b3, hb⟩ := T3
      replace HB := Lib.hid (HB.out.tr hb); replace B0 := Lib.hid (box_keep B0.out hb); clear hb
      have HPQ : Hid (w.heap.size < w0.heap.size ∧ w0.heap.size < w0.heap.size + 1 ∧ w0.heap.size + 1 < w0.heap.size + 1 + 1) := Lib.hid ⟨hw0, by omega, by omega⟩
      generalize w0.heap.size + 1 + 1 = p at *
      generalize w0.heap.size + 1 = q2 at *
      generalize w0.heap.size = q1 at *
      have HPQ2 : Hid (w.heap.size < q1 ∧ w.heap.size < q2 ∧ w.heap.size < p ∧ q1 ≠ q2 ∧ q1 ≠ p ∧ q2 ≠ p) := Lib.hid (by have := HPQ.out; omega)
      have B1 := Lib.hid b3
      have HV : Hid (wf.ownsRow q1 3 1 (.slice (some ⟨q1, 0, none⟩) n n) n (ints (List.replicate n 0))) := Lib.hid (row_of_heap b1 HS1.out (by unfold maxLen; omega) (by rw [HL1.out, HZ.out]))
      have HO : Hid (wf.ownsRow q2 4 1 (.slice (some ⟨q2, 0, none⟩) n n) n (fillB n 0 xs)) := Lib.hid (row_of_heap b2 HS2.out (by unfold maxLen; omega) (by rw [HL2.out, fillB_start]))
      clear b1 b2 b3 hw0 HPQ HS1 HS2 HL1 HL2 HZ
      have c2 := box_cell B1.out 2 (.slice (some ⟨q2, 0, none⟩) n n) rfl
      go_wp2_with fail
      clear c2
      go_loopw [20] (fun i wr => ∃ t : Nat, t ≤ n ∧ i = .int .i64 t ∧ Hid (wr.heap[p]? = some (.cells #[.int .i64 0, .slice (some ⟨q1, 0, none⟩) n n, .slice (some ⟨q2, 0, none⟩) n n, .slice none 0 0] 41 (0, 0))) ∧ Hid (wr.ownsRow q2 4 1 (.slice (some ⟨q2, 0, none⟩) n n) n (fillB n t xs)) ∧ Hid (wr.ownsRow q1 3 1 (.slice (some ⟨q1, 0, none⟩) n n) n (ints (List.replicate n 0))) ∧ Hid (wr.heap[w.heap.size]? = some (.cells #[.int .i64 0, .slice none 0 0, .slice none 0 0, .slice none 0 0] 41 (0, 0))) ∧ Hid (Below w.heap.size w wr)) (fun i _ => n - (intOf i).toNat)
      case atStart => exact ⟨0, Nat.zero_le _, rfl, B1, HO, HV, B0, HB⟩
      case round =>
        clear B1 HO HV B0 HB
        obtain ⟨t, ht, rfl, B1, HO, HV, B0, HB⟩ := hrel
        by_cases hlt : t < n
        · have k2 := box_cell B1.out 2 (.slice (some ⟨q2, 0, none⟩) n n) rfl
          have h2 : wr.cell? ⟨q2, t, none⟩ = some (.bool false) := by rw [HO.out.cellAt t (by omega), fillB_get n t xs HN.out hlt]
          have h3 : wr.frozen? ⟨q2, t, none⟩ = false := HO.out.frozenAt t
          have HST := Lib.hid (HO.out.stored t (.bool true))
          go_wp2_with fail
          go_roundw
          case rel =>
            have hpq := HPQ2.out
            have hc := Chg.of_grown HST.out.2
            refine ⟨t + 1, by omega, by go_num, Lib.hid ((hc.block p (box_lt B1.out) (by omega)).trans B1.out), Lib.hid ?_, Lib.hid (own_block HV.out (hc.block q1 (HV.out.lt _ rfl).2 (by omega))), Lib.hid ((hc.block _ (box_lt B0.out) (by omega)).trans B0.out), Lib.hid (hc.below HB.out (by omega))⟩
            rw [← fillB_set n t xs HN.out hlt, HG.out t hlt]; exact HST.out.1
          case measure => simp [intOf]; omega
        · obtain rfl : t = n := by omega
          have k0 := box_cell B1.out 0 (.int .i64 0) rfl; have k1 := box_cell B1.out 1 (.slice (some ⟨q1, 0, none⟩) t t) rfl; have k2 := box_cell B1.out 2 (.slice (some ⟨q2, 0, none⟩) t t) rfl; have k3 := box_cell B1.out 3 (.slice none 0 0) rfl
          have j0 := box_cell B0.out 0 _ rfl; have j1 := box_cell B0.out 1 _ rfl; have j2 := box_cell B0.out 2 _ rfl; have j3 := box_cell B0.out 3 _ rfl
          have f0 := box_frozen B0.out 0; have f1 := box_frozen B0.out 1; have f2 := box_frozen B0.out 2; have f3 := box_frozen B0.out 3
          go_wp2_with fail
          have hK : Chg w.heap.size (w.heap.size + 1) wr ((((wr.setCell ⟨w.heap.size, 0, none⟩ (.int .i64 0)).setCell ⟨w.heap.size, 1, none⟩ (.slice (some ⟨q1, 0, none⟩) t t)).setCell ⟨w.heap.size, 2, none⟩ (.slice (some ⟨q2, 0, none⟩) t t)).setCell ⟨w.heap.size, 3, none⟩ (.slice none 0 0)) :=
            (((Chg.setCell (p := ⟨w.heap.size, 0, none⟩) (by simp) (by simp) _).trans (Chg.setCell (p := ⟨w.heap.size, 1, none⟩) (by simp) (by simp) _)).trans (Chg.setCell (p := ⟨w.heap.size, 2, none⟩) (by simp) (by simp) _)).trans (Chg.setCell (p := ⟨w.heap.size, 3, none⟩) (by simp) (by simp) _)
          have hpq := HPQ2.out
          have hV := HV.out; have hO := HO.out
          rw [fillB_all t xs HN.out] at hO
          refine bodyPost_ret (v := .agg #[.int .i64 0, .slice (some ⟨q1, 0, none⟩) t t, .slice (some ⟨q2, 0, none⟩) t t, .slice none 0 0]) (by simp [results, Try.results26, go_sem, j0, j1, j2, j3]) rfl ⟨_, rfl, ⟨_, _, _, rfl, ?_, ?_, Ow.nil _ _ _ _ _ _⟩, hK.below HB.out (Nat.le_refl _)⟩
          · have h := ((Ow.of_row hV).chg hK (.inl (by omega))).mono (show w.heap.size ≤ q1 by omega) hK.size
            simpa [OwIntS] using h
          · have h := ((Ow.of_row hO).chg hK (.inl (by omega))).mono (show w.heap.size ≤ q2 by omega) hK.size
            unfold OwBoolS
            simp only
            rw [HN.out]; exact h
    · have T3 := three_boxes w0 (.cells A1 3) (.cells #[.int .i64 0, .slice (some ⟨w0.heap.size, 0, none⟩) n n, .slice (some ⟨w0.heap.size + 1 + 1, 0, none⟩) n n, .slice none 0 0] 41) (.cells A2 4)
      have hw0 := box_lt B0.out
      generalize (((w0.alloc (.cells A1 3)).alloc (.cells #[.int .i64 0, .slice (some ⟨w0.heap.size, 0, none⟩) n n, .slice (some ⟨w0.heap.size + 1 + 1, 0, none⟩) n n, .slice none 0 0] 41)).alloc (.cells A2 4)).drew = wf at *
      obtain ⟨b1, b2, b3, hb⟩ := T3
      replace HB := Lib.hid (HB.out.tr hb); replace B0 := Lib.hid (box_keep B0.out hb); clear hb
      have HPQ : Hid (w.heap.size < w0.heap.size ∧ w0.heap.size < w0.heap.size + 1 ∧ w0.heap.size + 1 < w0.heap.size + 1 + 1) := Lib.hid ⟨hw0, by omega, by omega⟩
      generalize w0.heap.size + 1 + 1 = q2 at *
      generalize w0.heap.size + 1 = p at *
      generalize w0.heap.size = q1 at *
      have HPQ2 : Hid (w.heap.size < q1 ∧ w.heap.size < q2 ∧ w.heap.size < p ∧ q1 ≠ q2 ∧ q1 ≠ p ∧ q2 ≠ p) := Lib.hid (by have := HPQ.out; omega)
      have B1 := Lib.hid b2
      have HV : Hid (wf.ownsRow q1 3 1 (.slice (some ⟨q1, 0, none⟩) n n) n (ints (List.replicate n 0))) := Lib.hid (row_of_heap b1 HS1.out (by unfold maxLen; omega) (by rw [HL1.out, HZ.out]))
      have HO : Hid (wf.ownsRow q2 4 1 (.slice (some ⟨q2, 0, none⟩) n n) n (fillB n 0 xs)) := Lib.hid (row_of_heap b3 HS2.out (by unfold maxLen; omega) (by rw [HL2.out, fillB_start]))
      clear b1 b2 b3 hw0 HPQ HS1 HS2 HL1 HL2 HZ
      have c2 := box_cell B1.out 2 (.slice (some ⟨q2, 0, none⟩) n n) rfl
      go_wp2_with fail
      clear c2
      go_loopw [20] (fun i wr => ∃ t : Nat, t ≤ n ∧ i = .int .i64 t ∧ Hid (wr.heap[p]? = some (.cells #[.int .i64 0, .slice (some ⟨q1, 0, none⟩) n n, .slice (some ⟨q2, 0, none⟩) n n, .slice none 0 0] 41 (0, 0))) ∧ Hid (wr.ownsRow q2 4 1 (.slice (some ⟨q2, 0, none⟩) n n) n (fillB n t xs)) ∧ Hid (wr.ownsRow q1 3 1 (.slice (some ⟨q1, 0, none⟩) n n) n (ints (List.replicate n 0))) ∧ Hid (wr.heap[w.heap.size]? = some (.cells #[.int .i64 0, .slice none 0 0, .slice none 0 0, .slice none 0 0] 41 (0, 0))) ∧ Hid (Below w.heap.size w wr)) (fun i _ => n - (intOf i).toNat)
      case atStart => exact ⟨0, Nat.zero_le _, rfl, B1, HO, HV, B0, HB⟩
      case round =>
        clear B1 HO HV B0 HB
        obtain ⟨t, ht, rfl, B1, HO, HV, B0, HB⟩ := hrel
        by_cases hlt : t < n
        · have k2 := box_cell B1.out 2 (.slice (some ⟨q2, 0, none⟩) n n) rfl
          have h2 : wr.cell? ⟨q2, t, none⟩ = some (.bool false) := by rw [HO.out.cellAt t (by omega), fillB_get n t xs HN.out hlt]
          have h3 : wr.frozen? ⟨q2, t, none⟩ = false := HO.out.frozenAt t
          have HST := Lib.hid (HO.out.stored t (.bool true))
          go_wp2_with fail
          go_roundw
          case rel =>
            have hpq := HPQ2.out
            have hc := Chg.of_grown HST.out.2
            refine ⟨t + 1, by omega, by go_num, Lib.hid ((hc.block p (box_lt B1.out) (by omega)).trans B1.out), Lib.hid ?_, Lib.hid (own_block HV.out (hc.block q1 (HV.out.lt _ rfl).2 (by omega))), Lib.hid ((hc.block _ (box_lt B0.out) (by omega)).trans B0.out), Lib.hid (hc.below HB.out (by omega))⟩
            rw [← fillB_set n t xs HN.out hlt, HG.out t hlt]; exact HST.out.1
          case measure => simp [intOf]; omega
        · obtain rfl : t = n := by omega
          have k0 := box_cell B1.out 0 (.int .i64 0) rfl; have k1 := box_cell B1.out 1 (.slice (some ⟨q1, 0, none⟩) t t) rfl; have k2 := box_cell B1.out 2 (.slice (some ⟨q2, 0, none⟩) t t) rfl; have k3 := box_cell B1.out 3 (.slice none 0 0) rfl
          have j0 := box_cell B0.out 0 _ rfl; have j1 := box_cell B0.out 1 _ rfl; have j2 := box_cell B0.out 2 _ rfl; have j3 := box_cell B0.out 3 _ rfl
          have f0 := box_frozen B0.out 0; have f1 := box_frozen B0.out 1; have f2 := box_frozen B0.out 2; have f3 := box_frozen B0.out 3
          go_wp2_with fail
          have hK : Chg w.heap.size (w.heap.size + 1) wr ((((wr.setCell ⟨w.heap.size, 0, none⟩ (.int .i64 0)).setCell ⟨w.heap.size, 1, none⟩ (.slice (some ⟨q1, 0, none⟩) t t)).setCell ⟨w.heap.size, 2, none⟩ (.slice (some ⟨q2, 0, none⟩) t t)).setCell ⟨w.heap.size, 3, none⟩ (.slice none 0 0)) :=
            (((Chg.setCell (p := ⟨w.heap.size, 0, none⟩) (by simp) (by simp) _).trans (Chg.setCell (p := ⟨w.heap.size, 1, none⟩) (by simp) (by simp) _)).trans (Chg.setCell (p := ⟨w.heap.size, 2, none⟩) (by simp) (by simp) _)).trans (Chg.setCell (p := ⟨w.heap.size, 3, none⟩) (by simp) (by simp) _)
          have hpq := HPQ2.out
          have hV := HV.out; have hO := HO.out
          rw [fillB_all t xs HN.out] at hO
          refine bodyPost_ret (v := .agg #[.int .i64 0, .slice (some ⟨q1, 0, none⟩) t t, .slice (some ⟨q2, 0, none⟩) t t, .slice none 0 0]) (by simp [results, Try.results26, go_sem, j0, j1, j2, j3]) rfl ⟨_, rfl, ⟨_, _, _, rfl, ?_, ?_, Ow.nil _ _ _ _ _ _⟩, hK.below HB.out (Nat.le_refl _)⟩
          · have h := ((Ow.of_row hV).chg hK (.inl (by omega))).mono (show w.heap.size ≤ q1 by omega) hK.size
            simpa [OwIntS] using h
          · have h := ((Ow.of_row hO).chg hK (.inl (by omega))).mono (show w.heap.size ≤ q2 by omega) hK.size
            unfold OwBoolS
            simp only
            rw [HN.out]; exact h
    · have T3 := three_boxes w0 (.cells A2 4) (.cells A1 3) (.cells #[.int .i64 0, .slice (some ⟨w0.heap.size + 1, 0, none⟩) n n, .slice (some ⟨w0.heap.size, 0, none⟩) n n, .slice none 0 0] 41)
      have hw0 := box_lt B0.out
      generalize (((w0.alloc (.cells A2 4)).alloc (.cells A1 3)).alloc (.cells #[.int .i64 0, .slice (some ⟨w0.heap.size + 1, 0, none⟩) n n, .slice (some ⟨w0.heap.size, 0, none⟩) n n, .slice none 0 0] 41)).drew = wf at *
      obtain ⟨b1, b2, b3, hb⟩ := T3
      replace HB := Lib.hid (HB.out.tr hb); replace B0 := Lib.hid (box_keep B0.out hb); clear hb
      have HPQ : Hid (w.heap.size < w0.heap.size ∧ w0.heap.size < w0.heap.size + 1 ∧ w0.heap.size + 1 < w0.heap.size + 1 + 1) := Lib.hid ⟨hw0, by omega, by omega⟩
      generalize w0.heap.size + 1 + 1 = p at *
      generalize w0.heap.size + 1 = q1 at *
      generalize w0.heap.size = q2 at *
      have HPQ2 : Hid (w.heap.size < q1 ∧ w.heap.size < q2 ∧ w.heap.size < p ∧ q1 ≠ q2 ∧ q1 ≠ p ∧ q2 ≠ p) := Lib.hid (by have := HPQ.out; omega)
      have B1 := Lib.hid b3
      have HV : Hid (wf.ownsRow q1 3 1 (.slice (some ⟨q1, 0, none⟩) n n) n (ints (List.replicate n 0))) := Lib.hid (row_of_heap b2 HS1.out (by unfold maxLen; omega) (by rw [HL1.out, HZ.out]))
      have HO : Hid (wf.ownsRow q2 4 1 (.slice (some ⟨q2, 0, none⟩) n n) n (fillB n 0 xs)) := Lib.hid (row_of_heap b1 HS2.out (by unfold maxLen; omega) (by rw [HL2.out, fillB_start]))
      clear b1 b2 b3 hw0 HPQ HS1 HS2 HL1 HL2 HZ
      have c2 := box_cell B1.out 2 (.slice (some ⟨q2, 0, none⟩) n n) rfl
      go_wp2_with fail
      clear c2
      go_loopw [20] (fun i wr => ∃ t : Nat, t ≤ n ∧ i = .int .i64 t ∧ Hid (wr.heap[p]? = some (.cells #[.int .i64 0, .slice (some ⟨q1, 0, none⟩) n n, .slice (some ⟨q2, 0, none⟩) n n, .slice none 0 0] 41 (0, 0))) ∧ Hid (wr.ownsRow q2 4 1 (.slice (some ⟨q2, 0, none⟩) n n) n (fillB n t xs)) ∧ Hid (wr.ownsRow q1 3 1 (.slice (some ⟨q1, 0, none⟩) n n) n (ints (List.replicate n 0))) ∧ Hid (wr.heap[w.heap.size]? = some (.cells #[.int .i64 0, .slice none 0 0, .slice none 0 0, .slice none 0 0] 41 (0, 0))) ∧ Hid (Below w.heap.size w wr)) (fun i _ => n - (intOf i).toNat)
      case atStart => exact ⟨0, Nat.zero_le _, rfl, B1, HO, HV, B0, HB⟩
      case round =>
        clear B1 HO HV B0 HB
        obtain ⟨t, ht, rfl, B1, HO, HV, B0, HB⟩ := hrel
        by_cases hlt : t < n
        · have k2 := box_cell B1.out 2 (.slice (some ⟨q2, 0, none⟩) n n) rfl
          have h2 : wr.cell? ⟨q2, t, none⟩ = some (.bool false) := by rw [HO.out.cellAt t (by omega), fillB_get n t xs HN.out hlt]
          have h3 : wr.frozen? ⟨q2, t, none⟩ = false := HO.out.frozenAt t
          have HST := Lib.hid (HO.out.stored t (.bool true))
          go_wp2_with fail
          go_roundw
          case rel =>
            have hpq := HPQ2.out
            have hc := Chg.of_grown HST.out.2
            refine ⟨t + 1, by omega, by go_num, Lib.hid ((hc.block p (box_lt B1.out) (by omega)).trans B1.out), Lib.hid ?_, Lib.hid (own_block HV.out (hc.block q1 (HV.out.lt _ rfl).2 (by omega))), Lib.hid ((hc.block _ (box_lt B0.out) (by omega)).trans B0.out), Lib.hid (hc.below HB.out (by omega))⟩
            rw [← fillB_set n t xs HN.out hlt, HG.out t hlt]; exact HST.out.1
          case measure => simp [intOf]; omega
        · obtain rfl : t = n := by omega
          have k0 := box_cell B1.out 0 (.int .i64 0) rfl; have k1 := box_cell B1.out 1 (.slice (some ⟨q1, 0, none⟩) t t) rfl; have k2 := box_cell B1.out 2 (.slice (some ⟨q2, 0, none⟩) t t) rfl; have k3 := box_cell B1.out 3 (.slice none 0 0) rfl
          have j0 := box_cell B0.out 0 _ rfl; have j1 := box_cell B0.out 1 _ rfl; have j2 := box_cell B0.out 2 _ rfl; have j3 := box_cell B0.out 3 _ rfl
          have f0 := box_frozen B0.out 0; have f1 := box_frozen B0.out 1; have f2 := box_frozen B0.out 2; have f3 := box_frozen B0.out 3
          go_wp2_with fail
          have hK : Chg w.heap.size (w.heap.size + 1) wr ((((wr.setCell ⟨w.heap.size, 0, none⟩ (.int .i64 0)).setCell ⟨w.heap.size, 1, none⟩ (.slice (some ⟨q1, 0, none⟩) t t)).setCell ⟨w.heap.size, 2, none⟩ (.slice (some ⟨q2, 0, none⟩) t t)).setCell ⟨w.heap.size, 3, none⟩ (.slice none 0 0)) :=
            (((Chg.setCell (p := ⟨w.heap.size, 0, none⟩) (by simp) (by simp) _).trans (Chg.setCell (p := ⟨w.heap.size, 1, none⟩) (by simp) (by simp) _)).trans (Chg.setCell (p := ⟨w.heap.size, 2, none⟩) (by simp) (by simp) _)).trans (Chg.setCell (p := ⟨w.heap.size, 3, none⟩) (by simp) (by simp) _)
          have hpq := HPQ2.out
          have hV := HV.out; have hO := HO.out
          rw [fillB_all t xs HN.out] at hO
          refine bodyPost_ret (v := .agg #[.int .i64 0, .slice (some ⟨q1, 0, none⟩) t t, .slice (some ⟨q2, 0, none⟩) t t, .slice none 0 0]) (by simp [results, Try.results26, go_sem, j0, j1, j2, j3]) rfl ⟨_, rfl, ⟨_, _, _, rfl, ?_, ?_, Ow.nil _ _ _ _ _ _⟩, hK.below HB.out (Nat.le_refl _)⟩
          · have h := ((Ow.of_row hV).chg hK (.inl (by omega))).mono (show w.heap.size ≤ q1 by omega) hK.size
            simpa [OwIntS] using h
          · have h := ((Ow.of_row hO).chg hK (.inl (by omega))).mono (show w.heap.size ≤ q2 by omega) hK.size
            unfold OwBoolS
            simp only
            rw [HN.out]; exact h
    · have T3 := three_boxes w0 (.cells A2 4) (.cells #[.int .i64 0, .slice (some ⟨w0.heap.size + 1 + 1, 0, none⟩) n n, .slice (some ⟨w0.heap.size, 0, none⟩) n n, .slice none 0 0] 41) (.cells A1 3)
      have hw0 := box_lt B0.out
      generalize (((w0.alloc (.cells A2 4)).alloc (.cells #[.int .i64 0, .slice (some ⟨w0.heap.size + 1 + 1, 0, none⟩) n n, .slice (some ⟨w0.heap.size, 0, none⟩) n n, .slice none 0 0] 41)).alloc (.cells A1 3)).drew = wf at *
      obtain ⟨b1, b2, b3, hb⟩ := T3
      replace HB := Lib.hid (HB.out.tr hb); replace B0 := Lib.hid (box_keep B0.out hb); clear hb
      have HPQ : Hid (w.heap.size < w0.heap.size ∧ w0.heap.size < w0.heap.size + 1 ∧ w0.heap.size + 1 < w0.heap.size + 1 + 1) := Lib.hid ⟨hw0, by omega, by omega⟩
      generalize w0.heap.size + 1 + 1 = q1 at *
      generalize w0.heap.size + 1 = p at *
      generalize w0.heap.size = q2 at *
      have HPQ2 : Hid (w.heap.size < q1 ∧ w.heap.size < q2 ∧ w.heap.size < p ∧ q1 ≠ q2 ∧ q1 ≠ p ∧ q2 ≠ p) := Lib.hid (by have := HPQ.out; omega)
      have B1 := Lib.hid b2
      have HV : Hid (wf.ownsRow q1 3 1 (.slice (some ⟨q1, 0, none⟩) n n) n (ints (List.replicate n 0))) := Lib.hid (row_of_heap b3 HS1.out (by unfold maxLen; omega) (by rw [HL1.out, HZ.out]))
      have HO : Hid (wf.ownsRow q2 4 1 (.slice (some ⟨q2, 0, none⟩) n n) n (fillB n 0 xs)) := Lib.hid (row_of_heap b1 HS2.out (by unfold maxLen; omega) (by rw [HL2.out, fillB_start]))
      clear b1 b2 b3 hw0 HPQ HS1 HS2 HL1 HL2 HZ
      have c2 := box_cell B1.out 2 (.slice (some ⟨q2, 0, none⟩) n n) rfl
      go_wp2_with fail
      clear c2
      go_loopw [20] (fun i wr => ∃ t : Nat, t ≤ n ∧ i = .int .i64 t ∧ Hid (wr.heap[p]? = some (.cells #[.int .i64 0, .slice (some ⟨q1, 0, none⟩) n n, .slice (some ⟨q2, 0, none⟩) n n, .slice none 0 0] 41 (0, 0))) ∧ Hid (wr.ownsRow q2 4 1 (.slice (some ⟨q2, 0, none⟩) n n) n (fillB n t xs)) ∧ Hid (wr.ownsRow q1 3 1 (.slice (some ⟨q1, 0, none⟩) n n) n (ints (List.replicate n 0))) ∧ Hid (wr.heap[w.heap.size]? = some (.cells #[.int .i64 0, .slice none 0 0, .slice none 0 0, .slice none 0 0] 41 (0, 0))) ∧ Hid (Below w.heap.size w wr)) (fun i _ => n - (intOf i).toNat)
      case atStart => exact ⟨0, Nat.zero_le _, rfl, B1, HO, HV, B0, HB⟩
      case round =>
        clear B1 HO HV B0 HB
        obtain ⟨t, ht, rfl, B1, HO, HV, B0, HB⟩ := hrel
        by_cases hlt : t < n
        · have k2 := box_cell B1.out 2 (.slice (some ⟨q2, 0, none⟩) n n) rfl
          have h2 : wr.cell? ⟨q2, t, none⟩ = some (.bool false) := by rw [HO.out.cellAt t (by omega), fillB_get n t xs HN.out hlt]
          have h3 : wr.frozen? ⟨q2, t, none⟩ = false := HO.out.frozenAt t
          have HST := Lib.hid (HO.out.stored t (.bool true))
          go_wp2_with fail
          go_roundw
          case rel =>
            have hpq := HPQ2.out
            have hc := Chg.of_grown HST.out.2
            refine ⟨t + 1, by omega, by go_num, Lib.hid ((hc.block p (box_lt B1.out) (by omega)).trans B1.out), Lib.hid ?_, Lib.hid (own_block HV.out (hc.block q1 (HV.out.lt _ rfl).2 (by omega))), Lib.hid ((hc.block _ (box_lt B0.out) (by omega)).trans B0.out), Lib.hid (hc.below HB.out (by omega))⟩
            rw [← fillB_set n t xs HN.out hlt, HG.out t hlt]; exact HST.out.1
          case measure => simp [intOf]; omega
        · obtain rfl : t = n := by omega
          have k0 := box_cell B1.out 0 (.int .i64 0) rfl; have k1 := box_cell B1.out 1 (.slice (some ⟨q1, 0, none⟩) t t) rfl; have k2 := box_cell B1.out 2 (.slice (some ⟨q2, 0, none⟩) t t) rfl; have k3 := box_cell B1.out 3 (.slice none 0 0) rfl
          have j0 := box_cell B0.out 0 _ rfl; have j1 := box_cell B0.out 1 _ rfl; have j2 := box_cell B0.out 2 _ rfl; have j3 := box_cell B0.out 3 _ rfl
          have f0 := box_frozen B0.out 0; have f1 := box_frozen B0.out 1; have f2 := box_frozen B0.out 2; have f3 := box_frozen B0.out 3
          go_wp2_with fail
          have hK : Chg w.heap.size (w.heap.size + 1) wr ((((wr.setCell ⟨w.heap.size, 0, none⟩ (.int .i64 0)).setCell ⟨w.heap.size, 1, none⟩ (.slice (some ⟨q1, 0, none⟩) t t)).setCell ⟨w.heap.size, 2, none⟩ (.slice (some ⟨q2, 0, none⟩) t t)).setCell ⟨w.heap.size, 3, none⟩ (.slice none 0 0)) :=
            (((Chg.setCell (p := ⟨w.heap.size, 0, none⟩) (by simp) (by simp) _).trans (Chg.setCell (p := ⟨w.heap.size, 1, none⟩) (by simp) (by simp) _)).trans (Chg.setCell (p := ⟨w.heap.size, 2, none⟩) (by simp) (by simp) _)).trans (Chg.setCell (p := ⟨w.heap.size, 3, none⟩) (by simp) (by simp) _)
          have hpq := HPQ2.out
          have hV := HV.out; have hO := HO.out
          rw [fillB_all t xs HN.out] at hO
          refine bodyPost_ret (v := .agg #[.int .i64 0, .slice (some ⟨q1, 0, none⟩) t t, .slice (some ⟨q2, 0, none⟩) t t, .slice none 0 0]) (by simp [results, Try.results26, go_sem, j0, j1, j2, j3]) rfl ⟨_, rfl, ⟨_, _, _, rfl, ?_, ?_, Ow.nil _ _ _ _ _ _⟩, hK.below HB.out (Nat.le_refl _)⟩
          · have h := ((Ow.of_row hV).chg hK (.inl (by omega))).mono (show w.heap.size ≤ q1 by omega) hK.size
            simpa [OwIntS] using h
          · have h := ((Ow.of_row hO).chg hK (.inl (by omega))).mono (show w.heap.size ≤ q2 by omega) hK.size
            unfold OwBoolS
            simp only
            rw [HN.out]; exact h
    · have T3 := three_boxes w0 (.cells #[.int .i64 0, .slice (some ⟨w0.heap.size + 1, 0, none⟩) n n, .slice (some ⟨w0.heap.size + 1 + 1, 0, none⟩) n n, .slice none 0 0] 41) (.cells A1 3) (.cells A2 4)
      have hw0 := box_lt B0.out
      generalize (((w0.alloc (.cells #[.int .i64 0, .slice (some ⟨w0.heap.size + 1, 0, none⟩) n n, .slice (some ⟨w0.heap.size + 1 + 1, 0, none⟩) n n, .slice none 0 0] 41)).alloc (.cells A1 3)).alloc (.cells A2 4)).drew = wf at *
      obtain ⟨b1, b2, b3, hb⟩ := T3
      replace HB := Lib.hid (HB.out.tr hb); replace B0 := Lib.hid (box_keep B0.out hb); clear hb
      have HPQ : Hid (w.heap.size < w0.heap.size ∧ w0.heap.size < w0.heap.size + 1 ∧ w0.heap.size + 1 < w0.heap.size + 1 + 1) := Lib.hid ⟨hw0, by omega, by omega⟩
      generalize w0.heap.size + 1 + 1 = q2 at *
      generalize w0.heap.size + 1 = q1 at *
      generalize w0.heap.size = p at *
      have HPQ2 : Hid (w.heap.size < q1 ∧ w.heap.size < q2 ∧ w.heap.size < p ∧ q1 ≠ q2 ∧ q1 ≠ p ∧ q2 ≠ p) := Lib.hid (by have := HPQ.out; omega)
      have B1 := Lib.hid b1
      have HV : Hid (wf.ownsRow q1 3 1 (.slice (some ⟨q1, 0, none⟩) n n) n (ints (List.replicate n 0))) := Lib.hid (row_of_heap b2 HS1.out (by unfold maxLen; omega) (by rw [HL1.out, HZ.out]))
      have HO : Hid (wf.ownsRow q2 4 1 (.slice (some ⟨q2, 0, none⟩) n n) n (fillB n 0 xs)) := Lib.hid (row_of_heap b3 HS2.out (by unfold maxLen; omega) (by rw [HL2.out, fillB_start]))
      clear b1 b2 b3 hw0 HPQ HS1 HS2 HL1 HL2 HZ
      have c2 := box_cell B1.out 2 (.slice (some ⟨q2, 0, none⟩) n n) rfl
      go_wp2_with fail
      clear c2
      go_loopw [20] (fun i wr => ∃ t : Nat, t ≤ n ∧ i = .int .i64 t ∧ Hid (wr.heap[p]? = some (.cells #[.int .i64 0, .slice (some ⟨q1, 0, none⟩) n n, .slice (some ⟨q2, 0, none⟩) n n, .slice none 0 0] 41 (0, 0))) ∧ Hid (wr.ownsRow q2 4 1 (.slice (some ⟨q2, 0, none⟩) n n) n (fillB n t xs)) ∧ Hid (wr.ownsRow q1 3 1 (.slice (some ⟨q1, 0, none⟩) n n) n (ints (List.replicate n 0))) ∧ Hid (wr.heap[w.heap.size]? = some (.cells #[.int .i64 0, .slice none 0 0, .slice none 0 0, .slice none 0 0] 41 (0, 0))) ∧ Hid (Below w.heap.size w wr)) (fun i _ => n - (intOf i).toNat)
      case atStart => exact ⟨0, Nat.zero_le _, rfl, B1, HO, HV, B0, HB⟩
      case round =>
        clear B1 HO HV B0 HB
        obtain ⟨t, ht, rfl, B1, HO, HV, B0, HB⟩ := hrel
        by_cases hlt : t < n
        · have k2 := box_cell B1.out 2 (.slice (some ⟨q2, 0, none⟩) n n) rfl
          have h2 : wr.cell? ⟨q2, t, none⟩ = some (.bool false) := by rw [HO.out.cellAt t (by omega), fillB_get n t xs HN.out hlt]
          have h3 : wr.frozen? ⟨q2, t, none⟩ = false := HO.out.frozenAt t
          have HST := Lib.hid (HO.out.stored t (.bool true))
          go_wp2_with fail
          go_roundw
          case rel =>
            have hpq := HPQ2.out
            have hc := Chg.of_grown HST.out.2
            refine ⟨t + 1, by omega, by go_num, Lib.hid ((hc.block p (box_lt B1.out) (by omega)).trans B1.out), Lib.hid ?_, Lib.hid (own_block HV.out (hc.block q1 (HV.out.lt _ rfl).2 (by omega))), Lib.hid ((hc.block _ (box_lt B0.out) (by omega)).trans B0.out), Lib.hid (hc.below HB.out (by omega))⟩
            rw [← fillB_set n t xs HN.out hlt, HG.out t hlt]; exact HST.out.1
          case measure => simp [intOf]; omega
        · obtain rfl : t = n := by omega
          have k0 := box_cell B1.out 0 (.int .i64 0) rfl; have k1 := box_cell B1.out 1 (.slice (some ⟨q1, 0, none⟩) t t) rfl; have k2 := box_cell B1.out 2 (.slice (some ⟨q2, 0, none⟩) t t) rfl; have k3 := box_cell B1.out 3 (.slice none 0 0) rfl
          have j0 := box_cell B0.out 0 _ rfl; have j1 := box_cell B0.out 1 _ rfl; have j2 := box_cell B0.out 2 _ rfl; have j3 := box_cell B0.out 3 _ rfl
          have f0 := box_frozen B0.out 0; have f1 := box_frozen B0.out 1; have f2 := box_frozen B0.out 2; have f3 := box_frozen B0.out 3
          go_wp2_with fail
          have hK : Chg w.heap.size (w.heap.size + 1) wr ((((wr.setCell ⟨w.heap.size, 0, none⟩ (.int .i64 0)).setCell ⟨w.heap.size, 1, none⟩ (.slice (some ⟨q1, 0, none⟩) t t)).setCell ⟨w.heap.size, 2, none⟩ (.slice (some ⟨q2, 0, none⟩) t t)).setCell ⟨w.heap.size, 3, none⟩ (.slice none 0 0)) :=
            (((Chg.setCell (p := ⟨w.heap.size, 0, none⟩) (by simp) (by simp) _).trans (Chg.setCell (p := ⟨w.heap.size, 1, none⟩) (by simp) (by simp) _)).trans (Chg.setCell (p := ⟨w.heap.size, 2, none⟩) (by simp) (by simp) _)).trans (Chg.setCell (p := ⟨w.heap.size, 3, none⟩) (by simp) (by simp) _)
          have hpq := HPQ2.out
          have hV := HV.out; have hO := HO.out
          rw [fillB_all t xs HN.out] at hO
          refine bodyPost_ret (v := .agg #[.int .i64 0, .slice (some ⟨q1, 0, none⟩) t t, .slice (some ⟨q2, 0, none⟩) t t, .slice none 0 0]) (by simp [results, Try.results26, go_sem, j0, j1, j2, j3]) rfl ⟨_, rfl, ⟨_, _, _, rfl, ?_, ?_, Ow.nil _ _ _ _ _ _⟩, hK.below HB.out (Nat.le_refl _)⟩
          · have h := ((Ow.of_row hV).chg hK (.inl (by omega))).mono (show w.heap.size ≤ q1 by omega) hK.size
            simpa [OwIntS] using h
          · have h := ((Ow.of_row hO).chg hK (.inl (by omega))).mono (show w.heap.size ≤ q2 by omega) hK.size
            unfold OwBoolS
            simp only
            rw [HN.out]; exact h
    · have T3 := three_boxes w0 (.cells #[.int .i64 0, .slice (some ⟨w0.heap.size + 1 + 1, 0, none⟩) n n, .slice (some ⟨w0.heap.size + 1, 0, none⟩) n n, .slice none 0 0] 41) (.cells A2 4) (.cells A1 3)
      have hw0 := box_lt B0.out
      generalize (((w0.alloc (.cells #[.int .i64 0, .slice (some ⟨w0.heap.size + 1 + 1, 0, none⟩) n n, .slice (some ⟨w0.heap.size + 1, 0, none⟩) n n, .slice none 0 0] 41)).alloc (.cells A2 4)).alloc (.cells A1 3)).drew = wf at *
      obtain ⟨b1, b2, b3, hb⟩ := T3
      replace HB := Lib.hid (HB.out.tr hb); replace B0 := Lib.hid (box_keep B0.out hb); clear hb
      have HPQ : Hid (w.heap.size < w0.heap.size ∧ w0.heap.size < w0.heap.size + 1 ∧ w0.heap.size + 1 < w0.heap.size + 1 + 1) := Lib.hid ⟨hw0, by omega, by omega⟩
      generalize w0.heap.size + 1 + 1 = q1 at *
      generalize w0.heap.size + 1 = q2 at *
      generalize w0.heap.size = p at *
      have HPQ2 : Hid (w.heap.size < q1 ∧ w.heap.size < q2 ∧ w.heap.size < p ∧ q1 ≠ q2 ∧ q1 ≠ p ∧ q2 ≠ p) := Lib.hid (by have := HPQ.out; omega)
      have B1 := Lib.hid b1
      have HV : Hid (wf.ownsRow q1 3 1 (.slice (some ⟨q1, 0, none⟩) n n) n (ints (List.replicate n 0))) := Lib.hid (row_of_heap b3 HS1.out (by unfold maxLen; omega) (by rw [HL1.out, HZ.out]))
      have HO : Hid (wf.ownsRow q2 4 1 (.slice (some ⟨q2, 0, none⟩) n n) n (fillB n 0 xs)) := Lib.hid (row_of_heap b2 HS2.out (by unfold maxLen; omega) (by rw [HL2.out, fillB_start]))
      clear b1 b2 b3 hw0 HPQ HS1 HS2 HL1 HL2 HZ
      have c2 := box_cell B1.out 2 (.slice (some ⟨q2, 0, none⟩) n n) rfl
      go_wp2_with fail
      clear c2
      go_loopw [20] (fun i wr => ∃ t : Nat, t ≤ n ∧ i = .int .i64 t ∧ Hid (wr.heap[p]? = some (.cells #[.int .i64 0, .slice (some ⟨q1, 0, none⟩) n n, .slice (some ⟨q2, 0, none⟩) n n, .slice none 0 0] 41 (0, 0))) ∧ Hid (wr.ownsRow q2 4 1 (.slice (some ⟨q2, 0, none⟩) n n) n (fillB n t xs)) ∧ Hid (wr.ownsRow q1 3 1 (.slice (some ⟨q1, 0, none⟩) n n) n (ints (List.replicate n 0))) ∧ Hid (wr.heap[w.heap.size]? = some (.cells #[.int .i64 0, .slice none 0 0, .slice none 0 0, .slice none 0 0] 41 (0, 0))) ∧ Hid (Below w.heap.size w wr)) (fun i _ => n - (intOf i).toNat)
      case atStart => exact ⟨0, Nat.zero_le _, rfl, B1, HO, HV, B0, HB⟩
      case round =>
        clear B1 HO HV B0 HB
        obtain ⟨t, ht, rfl, B1, HO, HV, B0, HB⟩ := hrel
        by_cases hlt : t < n
        · have k2 := box_cell B1.out 2 (.slice (some ⟨q2, 0, none⟩) n n) rfl
          have h2 : wr.cell? ⟨q2, t, none⟩ = some (.bool false) := by rw [HO.out.cellAt t (by omega), fillB_get n t xs HN.out hlt]
          have h3 : wr.frozen? ⟨q2, t, none⟩ = false := HO.out.frozenAt t
          have HST := Lib.hid (HO.out.stored t (.bool true))
          go_wp2_with fail
          go_roundw
          case rel =>
            have hpq := HPQ2.out
            have hc := Chg.of_grown HST.out.2
            refine ⟨t + 1, by omega, by go_num, Lib.hid ((hc.block p (box_lt B1.out) (by omega)).trans B1.out), Lib.hid ?_, Lib.hid (own_block HV.out (hc.block q1 (HV.out.lt _ rfl).2 (by omega))), Lib.hid ((hc.block _ (box_lt B0.out) (by omega)).trans B0.out), Lib.hid (hc.below HB.out (by omega))⟩
            rw [← fillB_set n t xs HN.out hlt, HG.out t hlt]; exact HST.out.1
          case measure => simp [intOf]; omega
        · obtain rfl : t = n := by omega
          have k0 := box_cell B1.out 0 (.int .i64 0) rfl; have k1 := box_cell B1.out 1 (.slice (some ⟨q1, 0, none⟩) t t) rfl; have k2 := box_cell B1.out 2 (.slice (some ⟨q2, 0, none⟩) t t) rfl; have k3 := box_cell B1.out 3 (.slice none 0 0) rfl
          have j0 := box_cell B0.out 0 _ rfl; have j1 := box_cell B0.out 1 _ rfl; have j2 := box_cell B0.out 2 _ rfl; have j3 := box_cell B0.out 3 _ rfl
          have f0 := box_frozen B0.out 0; have f1 := box_frozen B0.out 1; have f2 := box_frozen B0.out 2; have f3 := box_frozen B0.out 3
          go_wp2_with fail
          have hK : Chg w.heap.size (w.heap.size + 1) wr ((((wr.setCell ⟨w.heap.size, 0, none⟩ (.int .i64 0)).setCell ⟨w.heap.size, 1, none⟩ (.slice (some ⟨q1, 0, none⟩) t t)).setCell ⟨w.heap.size, 2, none⟩ (.slice (some ⟨q2, 0, none⟩) t t)).setCell ⟨w.heap.size, 3, none⟩ (.slice none 0 0)) :=
            (((Chg.setCell (p := ⟨w.heap.size, 0, none⟩) (by simp) (by simp) _).trans (Chg.setCell (p := ⟨w.heap.size, 1, none⟩) (by simp) (by simp) _)).trans (Chg.setCell (p := ⟨w.heap.size, 2, none⟩) (by simp) (by simp) _)).trans (Chg.setCell (p := ⟨w.heap.size, 3, none⟩) (by simp) (by simp) _)
          have hpq := HPQ2.out
          have hV := HV.out; have hO := HO.out
          rw [fillB_all t xs HN.out] at hO
          refine bodyPost_ret (v := .agg #[.int .i64 0, .slice (some ⟨q1, 0, none⟩) t t, .slice (some ⟨q2, 0, none⟩) t t, .slice none 0 0]) (by simp [results, Try.results26, go_sem, j0, j1, j2, j3]) rfl ⟨_, rfl, ⟨_, _, _, rfl, ?_, ?_, Ow.nil _ _ _ _ _ _⟩, hK.below HB.out (Nat.le_refl _)⟩
          · have h := ((Ow.of_row hV).chg hK (.inl (by omega))).mono (show w.heap.size ≤ q1 by omega) hK.size
            simpa [OwIntS] using h
          · have h := ((Ow.of_row hO).chg hK (.inl (by omega))).mono (show w.heap.size ≤ q2 by omega) hK.size
            unfold OwBoolS
            simp only
            rw [HN.out]; exact h
  · rw [startState_no hv]
    have E : decide (many < 0) = true ∨ (decide (many < 0) = false ∧ decide (many > 16) = true) := by
      simp only [decide_eq_true_eq, decide_eq_false_iff_not]; omega
    clear hv
    rcases E with E1 | ⟨E1, E2⟩
    all_goals
      go_enter Try.func26, Try.ntmps26
      go_wp2_with fail
      generalize (w.alloc (.cells #[.int .i64 0, .slice none 0 0, .slice none 0 0, .slice none 0 0] 41)) = w0 at *
      have k0 := box_cell B0.out 0 _ rfl; have k1 := box_cell B0.out 1 _ rfl; have k2 := box_cell B0.out 2 _ rfl; have k3 := box_cell B0.out 3 _ rfl
      have f0 := box_frozen B0.out 0; have f1 := box_frozen B0.out 1; have f2 := box_frozen B0.out 2; have f3 := box_frozen B0.out 3
      go_wp2_with fail
      have hK : Chg w.heap.size (w.heap.size + 1) w0 w0 := Chg.refl _ _ _
      exact bodyPost_ret (v := .agg #[.int .i64 0, .slice none 0 0, .slice none 0 0, .slice none 0 0]) (by simp [results, Try.results26, go_sem, k0, k1, k2, k3]) rfl ⟨_, rfl, OwState.none, HB.out⟩
end Go.Proofs.Ytgdggkhdollieaa
