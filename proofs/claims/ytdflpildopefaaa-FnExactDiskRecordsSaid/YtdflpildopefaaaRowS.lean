/-
  What the laws' helpers do with lists of lists of ints: copy, compare, mark, look for the marks, count.
-/
import Derived.Test.YtdflpildopefaaaIntSS
import Derived.Test.YtdflpildopefaaaDisk
import Derived.Test.YtdflpildopefaaaSame
namespace Go.Proofs.Ytdflpildopefaaa
open Go.RowKit
set_option linter.unusedVariables false

/-- How much room rows take. -/
def sizeIntSS (xss : List (List Int)) : Nat := xss.length + cntIntSS xss
theorem rows_each {xss : List (List Int)} (h : sizeIntSS xss ≤ 1048576) : ∀ k, k < xss.length → (xss.getD k []).length ≤ 1099511627776 := fun k hk => by
  have h1 := cntTo_succ xss k hk; have h2 := cntTo_le xss (k + 1); simp only [sizeIntSS] at h; omega
/-- The first k lists, and as many nils as are missing. -/
def fillR (n k : Nat) (xss : List (List Int)) : List (List Int) := xss.take k ++ List.replicate (n - k) []
theorem fillR_length {n k : Nat} {xss : List (List Int)} (hn : xss.length = n) (hk : k ≤ n) : (fillR n k xss).length = n := by
  simp [fillR]; omega
theorem fillR_lt {n k i : Nat} {xss : List (List Int)} (hn : xss.length = n) (hi : i < k) (hk : k ≤ n) : (fillR n k xss).getD i [] = xss.getD i [] := by
  rw [fillR, List.getD_eq_getElem?_getD, List.getElem?_append_left (by rw [List.length_take]; omega), List.getElem?_take, if_pos hi, ← List.getD_eq_getElem?_getD]
theorem fillR_ge {n k i : Nat} {xss : List (List Int)} (hn : xss.length = n) (hi : k ≤ i) : (fillR n k xss).getD i [] = [] := by
  by_cases hl : i < n
  · simp only [fillR, List.getD_eq_getElem?_getD, List.getElem?_append, List.length_take, List.getElem?_replicate]
    rw [if_neg (by omega)]
    split <;> rfl
  · have : (fillR n k xss).length ≤ i := by simp [fillR]; omega
    simp [this]
theorem fillR_all {n : Nat} {xss : List (List Int)} (hn : xss.length = n) : fillR n n xss = xss := by
  simp [fillR, ← hn]
/-- Lists that are filled one by one: the first k lie in memory of their own; the others are nil. -/
structure Fill (lo : Nat) (w : World) (g n k : Nat) (xss : List (List Int)) (vs : List Value) (A M : Nat → Nat) : Prop where
  own : OwnR lo w.heap.size w g n vs A M (fillR n k xss)
  next : ∀ i, k ≤ i → i < n → A i = w.heap.size ∧ M i = w.heap.size ∧ vs[i]? = some (.slice none 0 0)
theorem Fill.keep {lo g n k : Nat} {w w' : World} {xss : List (List Int)} {vs : List Value} {A M : Nat → Nat} (hn : xss.length = n) (hk : k ≤ n) (h : Fill lo w g n k xss vs A M) (hb : Below w.heap.size w w') :
    Fill lo w' g n k xss vs (fun i => if i < k then A i else w'.heap.size) (fun i => if i < k then M i else w'.heap.size) := by
  have hl := fillR_length hn hk
  have hs := hb.size
  refine ⟨⟨h.own.glo, Nat.lt_of_lt_of_le h.own.ghi hs, ownsRow_keep h.own.row hb, fun i hi => ?_, fun i j hij hj => ?_⟩, fun i hi hin => ?_⟩
  · rw [hl] at hi
    obtain ⟨⟨a1, a2, a3, a4⟩, u, hu, ho⟩ := h.own.each i (by rw [hl]; exact hi)
    by_cases hik : i < k
    · simp only [hik, if_true]
      exact ⟨⟨a1, a2, by omega, a4⟩, u, hu, ho.keep hb⟩
    · simp only [hik, if_false]
      have hgl := h.own.glo; have hgh := h.own.ghi
      refine ⟨⟨by omega, by omega, by omega, by omega⟩, _, (h.next i (by omega) hi).2.2, ?_⟩
      rw [fillR_ge hn (by omega)]; exact Ow.nil _ _ _ _ _ _
  · rw [hl] at hj
    by_cases hjk : j < k
    · simp only [show i < k by omega, hjk, if_true]; exact h.own.apart i j hij (by rw [hl]; exact hj)
    · simp only [hjk, if_false]
      by_cases hik : i < k
      · simp only [hik, if_true]; have := (h.own.each i (by rw [hl]; omega)).1; omega
      · simp only [hik, if_false]; omega
  · simp only [show ¬ i < k by omega, if_false]
    exact ⟨trivial, trivial, (h.next i hi hin).2.2⟩
/-- One list more. -/
theorem Fill.set {lo g n k : Nat} {w w2 : World} {xss : List (List Int)} {vs : List Value} {A M : Nat → Nat} (hn : xss.length = n) (hk : k < n) (h : Fill lo w g n k xss vs A M) (hb : Below w.heap.size w w2) {u : Value} (hu : OwIntS w.heap.size w2.heap.size w2 u (xss.getD k [])) :
    ∃ vs' A' M', Fill lo (w2.setCell ⟨g, k, none⟩ u) g n (k + 1) xss vs' A' M' := by
  have h2 := h.keep hn (Nat.le_of_lt hk) hb
  have hl := fillR_length hn (Nat.le_of_lt hk)
  have hl' := fillR_length hn (Nat.succ_le_of_lt hk)
  have hs := hb.size
  have hgh := h.own.ghi
  have hst := h2.own.row.stored k u
  have hvl : vs.length = n := by have := h.own.row.1; omega
  have hsz : (w2.setCell ⟨g, k, none⟩ u).heap.size = w2.heap.size := by simp [World.setCell]
  have hch : Chg g (g + 1) w2 (w2.setCell ⟨g, k, none⟩ u) := Chg.setCell (p := ⟨g, k, none⟩) (by simp) (by simp) u
  refine ⟨vs.set k u, fun i => if i < k then A i else if i = k then w.heap.size else w2.heap.size, fun i => if i < k then M i else w2.heap.size, ⟨⟨h.own.glo, by omega, ?_, fun i hi => ?_, fun i j hij hj => ?_⟩, fun i hi hin => ?_⟩⟩
  · rw [hl']; have := hst.1; rw [hl] at this; exact this
  · rw [hl'] at hi
    by_cases hik : i < k
    · simp only [hik, if_true]
      obtain ⟨⟨a1, a2, a3, a4⟩, y, hy, ho⟩ := h2.own.each i (by rw [hl]; exact hi)
      simp only [hik, if_true] at a1 a2 a3 a4 ho
      refine ⟨⟨a1, a2, by omega, a4⟩, y, by rw [List.getElem?_set_ne (by omega)]; exact hy, ?_⟩
      rw [fillR_lt hn (by omega) (by omega)]
      rw [fillR_lt hn hik (by omega)] at ho
      exact ho.chg hch (by omega)
    · by_cases hie : i = k
      · subst hie
        simp only [Nat.lt_irrefl, if_false, if_true]
        have hgl := h.own.glo
        refine ⟨⟨by omega, by omega, by omega, by omega⟩, u, by rw [List.getElem?_set_self (by omega)], ?_⟩
        rw [fillR_lt hn (by omega) (by omega)]
        exact hu.chg hch (by omega)
      · simp only [hik, hie, if_false]
        have hgl := h.own.glo
        refine ⟨⟨by omega, by omega, by omega, by omega⟩, .slice none 0 0, by rw [List.getElem?_set_ne (by omega)]; exact (h.next i (by omega) hi).2.2, ?_⟩
        rw [fillR_ge hn (by omega)]; exact Ow.nil _ _ _ _ _ _
  · rw [hl'] at hj
    by_cases hjk : j < k
    · simp only [show i < k by omega, hjk, if_true]; exact h.own.apart i j hij (by rw [hl]; exact hj)
    · by_cases hik : i < k
      · have hM := (h.own.each i (by rw [hl]; omega)).1
        simp only [hik, hjk, if_true, if_false]
        split <;> omega
      · simp only [hik, hjk, show ¬ j = k by omega, if_false]; omega
  · simp only [show ¬ i < k by omega, show ¬ i = k by omega, if_false]
    refine ⟨hsz.symm, hsz.symm, by rw [List.getElem?_set_ne (by omega)]; exact (h.next i (by omega) hin).2.2⟩

/-- Those that came first have been marked. -/
theorem OwnR.turn {lo hi g cap k : Nat} {w w' : World} {vs : List Value} {A M : Nat → Nat} {xss : List (List Int)} {ys : List Int} (h : OwnR lo hi w g cap vs A M xss) (hk : k < xss.length) (hc : Chg (A k) (M k) w w') {u : Value} (hu : vs[k]? = some u)
    (ho : OwIntS (A k) (M k) w' u ys) : OwnR lo hi w' g cap vs A M (xss.set k ys) := by
  obtain ⟨⟨a1, a2, a3, a4⟩, _⟩ := h.each k hk
  refine ⟨h.glo, h.ghi, ?_, fun i hi => ?_, fun i j hij hj => h.apart i j hij (by rw [List.length_set] at hj; exact hj)⟩
  · rw [List.length_set]
    refine ⟨h.row.1, ?_⟩
    rcases h.row.2 with h2 | ⟨g', cap', cur, e, hb, hg, r⟩
    · exact .inl h2
    · simp only [Value.slice.injEq, Option.some.injEq, Addr.mk.injEq, and_true, true_and] at e
      obtain ⟨rfl, rfl⟩ := e
      refine .inr ⟨g, cap, cur, rfl, hb, ?_, r⟩
      rw [hc.block g (box_lt hg) (by omega)]; exact hg
  · rw [List.length_set] at hi
    obtain ⟨hb, y, hy, hoy⟩ := h.each i hi
    by_cases hik : i = k
    · subst hik
      rw [hu] at hy; cases hy
      refine ⟨hb, u, hu, ?_⟩
      rw [show (xss.set i ys).getD i [] = ys from by simp [hi]]; exact ho
    · refine ⟨hb, y, hy, ?_⟩
      rw [show (xss.set k ys).getD i [] = xss.getD i [] from by simp [Ne.symm hik]]
      refine hoy.chg hc ?_
      rcases Nat.lt_or_gt_of_ne hik with h1 | h1
      · have := h.apart i k h1 hk; omega
      · have := h.apart k i h1 hi; omega

set_option maxRecDepth 100000 in
set_option maxHeartbeats 1000000 in
theorem eqIntSS_same (w : World) (va vb : Value) (xss : List (List Int)) (ha : RdIntSS w va xss) (hb : RdIntSS w vb xss) :
    Calls Try.prog 27 #[va, vb] w fun e w' => e = .returned (.bool true) ∧ Below w.heap.size w w' := by
  have HA := Lib.hid ha; have HB0 := Lib.hid hb
  obtain ⟨a, ca, rfl, hca, hma⟩ := ha.form
  obtain ⟨b, cb, rfl, hcb, hmb⟩ := hb.form
  clear ha hb
  generalize hn : xss.length = n at *
  have HN := Lib.hid hn; clear hn
  go_enter Try.func27, Try.ntmps27
  go_wp2_with fail
  go_loopw [5] (fun i wr => ∃ k : Nat, k ≤ n ∧ i = .int .i64 k ∧ Hid (Below w.heap.size w wr)) (fun i _ => n - (intOf i).toNat)
  case atStart => exact ⟨0, Nat.zero_le _, rfl, Lib.hid (Below.refl _ _)⟩
  case round =>
    obtain ⟨k, hk, rfl, HB⟩ := hrel
    by_cases hlt : k < n
    · obtain ⟨b1, o1, u1, rfl, hb1, hc1, hr1⟩ := (HA.out.keep HB.out).at_ HN.out hlt
      obtain ⟨b2, o2, u2, rfl, hb2, hc2, hr2⟩ := (HB0.out.keep HB.out).at_ HN.out hlt
      have CE := Lib.hid fun wx (h : Below wr.heap.size wr wx) => eqIntS_same wx u1 u2 (xss.getD k []) (hr1.keep h) (hr2.keep h)
      clear hr1 hr2
      go_wp2_with fail
      have g1 := fun p => GrownW.cell (B := wr.heap.size) hc1 hb1 p
      have g2 := fun p => GrownW.cell (B := wr.heap.size) hc2 hb2 p
      clear hc1 hc2
      refine wp_region_grown wr.heap.size (by kernel_rfl) (by kernel_rfl) ?_
      repeat (go_big_quiet_step ((go_at_call 26; exact GrownW.call (Nat.le_refl _) (CE.out _ (GrownW.h _)))))
      refine wpQuiet_done ?_
      intro w9 hb9
      replace HB := Lib.hid (HB.out.tr hb9); clear hb9 g1 g2 CE
      go_wp2_with fail
      go_roundw
      case rel => exact ⟨k + 1, by omega, by go_num, HB⟩
      case measure => simp [intOf]; omega
    · go_wp2_with fail
      go_ret
      exact ⟨rfl, HB.out⟩
set_option maxRecDepth 100000 in
set_option maxHeartbeats 1000000 in
theorem sameRecords_same (w : World) (va vb : Value) (xss : List (List Int)) (ha : RdIntSS w va xss) (hb : RdIntSS w vb xss) :
    Calls Try.prog 44 #[va, vb] w fun e w' => e = .returned (.bool true) ∧ Below w.heap.size w w' := by
  have HA := Lib.hid ha; have HB0 := Lib.hid hb
  obtain ⟨a, ca, rfl, hca, hma⟩ := ha.form
  obtain ⟨b, cb, rfl, hcb, hmb⟩ := hb.form
  clear ha hb
  generalize hn : xss.length = n at *
  have HN := Lib.hid hn; clear hn
  go_enter Try.func44, Try.ntmps44
  go_wp2_with fail
  go_loopw [5] (fun i wr => ∃ k : Nat, k ≤ n ∧ i = .int .i64 k ∧ Hid (Below w.heap.size w wr)) (fun i _ => n - (intOf i).toNat)
  case atStart => exact ⟨0, Nat.zero_le _, rfl, Lib.hid (Below.refl _ _)⟩
  case round =>
    obtain ⟨k, hk, rfl, HB⟩ := hrel
    by_cases hlt : k < n
    · obtain ⟨b1, o1, u1, rfl, hb1, hc1, hr1⟩ := (HA.out.keep HB.out).at_ HN.out hlt
      obtain ⟨b2, o2, u2, rfl, hb2, hc2, hr2⟩ := (HB0.out.keep HB.out).at_ HN.out hlt
      have CE := Lib.hid fun wx (h : Below wr.heap.size wr wx) => sameInts_same wx u1 u2 (xss.getD k []) (hr1.keep h) (hr2.keep h)
      clear hr1 hr2
      go_wp2_with fail
      have g1 := fun p => GrownW.cell (B := wr.heap.size) hc1 hb1 p
      have g2 := fun p => GrownW.cell (B := wr.heap.size) hc2 hb2 p
      clear hc1 hc2
      refine wp_region_grown wr.heap.size (by kernel_rfl) (by kernel_rfl) ?_
      repeat (go_big_quiet_step ((go_at_call 23; exact GrownW.call (Nat.le_refl _) (CE.out _ (GrownW.h _)))))
      refine wpQuiet_done ?_
      intro w9 hb9
      replace HB := Lib.hid (HB.out.tr hb9); clear hb9 g1 g2 CE
      go_wp2_with fail
      go_roundw
      case rel => exact ⟨k + 1, by omega, by go_num, HB⟩
      case measure => simp [intOf]; omega
    · go_wp2_with fail
      go_ret
      exact ⟨rfl, HB.out⟩

set_option maxRecDepth 100000 in
set_option maxHeartbeats 1000000 in
theorem toIntSS_any (w : World) (va : Value) (xss : List (List Int)) (ha : RdIntSS w va xss) (hs : sizeIntSS xss ≤ 1099511627776) :
    Calls Try.prog 25 #[va] w fun e w' => ∃ v, e = .returned v ∧ OwIntSS w.heap.size w'.heap.size w' v xss ∧ Below w.heap.size w w' := by
  have HA := Lib.hid ha
  obtain ⟨a, ca, rfl, hca, hma⟩ := ha.form
  clear ha
  unfold sizeIntSS at hs
  have HSZ : Hid (∀ k, k < xss.length → (xss.getD k []).length ≤ 1099511627776) := Lib.hid fun k hk => by
    have h1 := cntTo_succ xss k hk; have h2 := cntTo_le xss (k + 1); omega
  have hlen : xss.length ≤ 1099511627776 := by omega
  clear hs
  generalize hn : xss.length = n at *
  have HN := Lib.hid hn; clear hn
  obtain ⟨i0, hi, hz0, hz1, hz2⟩ := info_parts infoRow
  have Hi := Lib.hid hi; have Hz0 := Lib.hid hz0; have Hz1 := Lib.hid hz1; have Hz2 := Lib.hid hz2; clear hi hz0 hz1 hz2
  go_enter Try.func25, Try.ntmps25
  go_wp2_with (at_make; refine wpList_make_full _ rfl _ _ 30 rfl w.heap.size 23 i0 (.slice none 0 0) 1 Try.underlying30 Hi.out Hz0.out Hz1.out _ _ _ _ n rfl rfl rfl rfl (by rw [Hz2.out]; omega) (by unfold maxLen; omega) (Nat.le_refl _) ?_)
  intro w1 hown hgrow
  have HO := Lib.hid hown; have HG := Lib.hid hgrow; clear hown hgrow
  have HB1 : Hid (Below w.heap.size w w1) := Lib.hid ((Below.refl _ _).grown HG.out (Nat.le_refl _) (by intro k hk; cases hk))
  go_wp2_with fail
  go_loopw [4] (fun i wr => ∃ k : Nat, k ≤ n ∧ i = .int .i64 k ∧ Hid (∃ vs A M, Fill w.heap.size wr w.heap.size n k xss vs A M) ∧ Hid (Below w.heap.size w wr)) (fun i _ => n - (intOf i).toNat)
  case atStart =>
    refine ⟨0, Nat.zero_le _, rfl, Lib.hid ?_, HB1⟩
    have h := HO.out
    rw [toList_madeCells_one] at h
    have e0 : fillR n 0 xss = List.replicate n [] := by simp [fillR]
    have hl0 : (fillR n 0 xss).length = n := by rw [e0]; simp
    have hlt : w.heap.size < w1.heap.size := by
      rcases h.2 with ⟨h2, _⟩ | ⟨g', cap', cur, e, hb, hg, _⟩
      · cases h2
      · simp only [Value.slice.injEq, Option.some.injEq, Addr.mk.injEq, and_true, true_and] at e
        obtain ⟨rfl, _⟩ := e
        exact box_lt hg
    refine ⟨_, fun _ => w1.heap.size, fun _ => w1.heap.size, ⟨⟨Nat.le_refl _, hlt, by rw [hl0]; exact h, fun i hi => ?_, fun i j _ _ => Nat.le_refl _⟩, fun i _ hi => ⟨rfl, rfl, by simp [hi]⟩⟩⟩
    rw [hl0] at hi
    refine ⟨⟨by omega, Nat.le_refl _, Nat.le_refl _, .inl hlt⟩, .slice none 0 0, by simp [hi], ?_⟩
    rw [fillR_ge HN.out (Nat.zero_le _)]; exact Ow.nil _ _ _ _ _ _
  case round =>
    clear HO HG HB1
    obtain ⟨k, hk, rfl, HF, HB⟩ := hrel
    by_cases hlt : k < n
    · obtain ⟨b1, o1, u1, rfl, hb1, hc1, hr1⟩ := (HA.out.keep HB.out).at_ HN.out hlt
      have CT := Lib.hid (toIntS_any wr u1 (xss.getD k []) hr1 (HSZ.out k hlt))
      have hwr := HB.out.size
      clear hr1
      go_wp2_with fail
      refine CT.out.mono ?_
      rintro e w2 ⟨v2, rfl, ho2, hb2⟩
      obtain ⟨a3, c3, rfl, _, _⟩ := ho2.rd.form
      obtain ⟨vs, A, M, hF⟩ := HF.out
      have HF2 := Lib.hid (Fill.set HN.out hlt hF hb2 ho2)
      have hF2 := hF.keep HN.out (Nat.le_of_lt hlt) hb2
      have hl := fillR_length HN.out (Nat.le_of_lt hlt)
      have hcell : w2.cell? ⟨w.heap.size, k, none⟩ = some (.slice none 0 0) := by
        rw [hF2.own.row.cellAt k (by rw [hl]; omega)]; exact (hF.next k (Nat.le_refl _) hlt).2.2
      have hfrz : w2.frozen? ⟨w.heap.size, k, none⟩ = false := hF2.own.row.frozenAt k
      replace HB := Lib.hid (HB.out.trans (hb2.mono hwr))
      have hw2 := HB.out.size
      clear ho2 hb2 hF hF2 hl CT HF
      go_wp2_with fail
      go_roundw
      case rel =>
        exact ⟨k + 1, by omega, by go_num, HF2, Lib.hid (HB.out.setCell (p := ⟨w.heap.size, k, none⟩) (Nat.le_refl _) _)⟩
      case measure => simp [intOf]; omega
    · obtain rfl : k = n := by omega
      go_wp2_with fail
      go_ret
      obtain ⟨vs, A, M, hF⟩ := HF.out
      have h := hF.own
      rw [fillR_all HN.out] at h
      have e : xss.length = k := HN.out
      exact ⟨.slice (some ⟨w.heap.size, 0, none⟩) k k, rfl, .inr ⟨w.heap.size, k, vs, A, M, by rw [e], h⟩, HB.out⟩

/-- The first k lists are marked. -/
def markR (m : Int) (k : Nat) (xss zss : List (List Int)) : Prop := zss.length = xss.length ∧ (∀ i, i < k → zss.getD i [] = seqI (m + (cntTo xss i : Int)) (xss.getD i []).length) ∧ ∀ i, k ≤ i → zss.getD i [] = xss.getD i []

set_option maxRecDepth 100000 in
set_option maxHeartbeats 1000000 in
theorem markIntSS_any (w : World) (lo hi : Nat) (va : Value) (m : Int) (xss : List (List Int)) (ha : OwIntSS lo hi w va xss) (hm : 0 ≤ m) (hn : m + (cntIntSS xss : Int) ≤ 9223372036854775000) :
    Calls Try.prog 28 #[va, .int .i64 m] w fun e w' => ∃ yss, e = .returned (.int .i64 (m + (cntIntSS xss : Int))) ∧ MkIntSS m xss yss ∧ OwIntSS lo hi w' va yss ∧ Chg lo hi w w' := by
  rcases ha with ⟨rfl, rfl⟩ | ⟨g, cap, vs, A, M, rfl, hR⟩
  · have h0 : cntIntSS [] = 0 := rfl
    go_enter Try.func28, Try.ntmps28
    go_wp2_with fail
    refine wp_loop_rounds 1 ?_
    rw [rounds_succ]
    go_wp2_with fail
    go_ret
    exact ⟨[], by rw [h0]; simp, ⟨rfl, fun i hi => by simp at hi⟩, OwIntSS.nil _ _ _, Chg.refl _ _ _⟩
  · have HR := Lib.hid hR
    have hcap : xss.length ≤ cap ∧ cap ≤ 9223372036854775807 := by
      rcases hR.row.2 with ⟨h2, _⟩ | ⟨g', cap', cur, e, hb, hg, hnc, hmc, _⟩
      · cases h2
      · simp only [Value.slice.injEq, Option.some.injEq, Addr.mk.injEq, and_true, true_and] at e
        obtain ⟨rfl, rfl⟩ := e
        unfold maxLen at hmc; omega
    have HS := Lib.hid (cntTo_succ xss)
    have HLE := Lib.hid (cntTo_le xss)
    have HC : Hid (cntIntSS xss = cntTo xss xss.length) := Lib.hid rfl
    clear hR
    generalize cntIntSS xss = tot at *
    generalize hl : xss.length = n at *
    have HN := Lib.hid hl; clear hl
    go_enter Try.func28, Try.ntmps28
    go_wp2_with fail
    go_loopw [1, 5] (fun q i wr => ∃ k : Nat, k ≤ n ∧ i = .int .i64 k ∧ q = .int .i64 (m + (cntTo xss k : Int)) ∧ Hid (∃ zss, markR m k xss zss ∧ OwnR lo hi wr g cap vs A M zss) ∧ Hid (Chg lo hi w wr)) (fun _ i _ => n - (intOf i).toNat)
    case atStart => exact ⟨0, Nat.zero_le _, rfl, by simp [cntTo], Lib.hid ⟨xss, ⟨rfl, fun i hi => by omega, fun i _ => rfl⟩, HR.out⟩, Lib.hid (Chg.refl _ _ _)⟩
    case round =>
      obtain ⟨k, hk, rfl, rfl, HZ, HG⟩ := hrel
      have hle := HLE.out k
      by_cases hlt : k < n
      · obtain ⟨zss, ⟨z1, z2, z3⟩, hO⟩ := HZ.out
        have hkz : k < zss.length := by rw [z1, HN.out]; exact hlt
        obtain ⟨⟨a1, a2, a3, a4⟩, u, hu, hou⟩ := hO.each k hkz
        have hzk := z3 k (Nat.le_refl _)
        rw [hzk] at hou
        have hsu := HS.out k hlt
        have hle2 := HLE.out (k + 1)
        have hcell : wr.cell? ⟨g, k, none⟩ = some u := by rw [hO.row.cellAt k (by omega)]; exact hu
        obtain ⟨a5, c5, rfl, _, _⟩ := hou.rd.form
        have CM := Lib.hid (markIntS_any wr (A k) (M k) _ (m + (cntTo xss k : Int)) (xss.getD k []) hou (by omega) (by simp only [cntIntS]; omega))
        have HSU := Lib.hid hsu
        have HO := Lib.hid hO; have HM : Hid (markR m k xss zss) := Lib.hid ⟨z1, z2, z3⟩
        have HU := Lib.hid hu
        have hsum : cntTo xss k + (xss.getD k []).length ≤ tot := by omega
        clear hO hou hu z1 z2 z3 hsu
        generalize hck : cntTo xss k = ck at *
        have HCK := Lib.hid hck; clear hck hzk
        go_wp2_with fail
        refine CM.out.mono ?_
        rintro e w2 ⟨ys, rfl, hmk, ho2, hc2⟩
        have HO2 := Lib.hid (HO.out.turn hkz hc2 HU.out ho2)
        have HMK := Lib.hid hmk
        replace HG := Lib.hid (HG.out.trans (hc2.mono a1 a3))
        simp only [cntIntS]
        clear hc2 ho2 hmk CM
        go_wp2_with fail
        go_roundw
        case rel =>
          refine ⟨k + 1, by omega, by go_num, by rw [HSU.out]; go_num, Lib.hid ⟨zss.set k ys, ⟨by rw [List.length_set]; exact HM.out.1, fun i hi => ?_, fun i hi => ?_⟩, HO2.out⟩, HG⟩
          · by_cases hik : i = k
            · subst hik
              rw [show (zss.set i ys).getD i [] = ys from by simp [hkz], HMK.out, HCK.out]
            · rw [show (zss.set k ys).getD i [] = zss.getD i [] from by simp [Ne.symm hik]]
              exact HM.out.2.1 i (by omega)
          · rw [show (zss.set k ys).getD i [] = zss.getD i [] from by simp [show ¬ k = i by omega]]
            exact HM.out.2.2 i (by omega)
        case measure => simp [intOf]; omega
      · obtain rfl : k = n := by omega
        have hct := HC.out
        go_wp2_with fail
        go_ret
        obtain ⟨zss, ⟨z1, z2, z3⟩, hO⟩ := HZ.out
        have e1 : zss.length = k := by rw [z1, HN.out]
        refine ⟨zss, by rw [hct]; rfl, ⟨z1, fun i hi => z2 i (by rw [HN.out] at hi; exact hi)⟩, .inr ⟨g, cap, vs, A, M, by rw [e1], hO⟩, HG.out⟩

set_option maxRecDepth 100000 in
set_option maxHeartbeats 1000000 in
theorem heldIntSS_any (w : World) (va : Value) (m : Int) (xss yss : List (List Int)) (hmk : MkIntSS m xss yss) (ha : RdIntSS w va yss) (hm : 0 ≤ m) (hn : m + (cntIntSS xss : Int) ≤ 9223372036854775000) :
    Calls Try.prog 34 #[va, .int .i64 m] w fun e w' => e = .returned (.int .i64 (m + (cntIntSS xss : Int))) ∧ Below w.heap.size w w' := by
  have HA := Lib.hid ha
  obtain ⟨a, ca, rfl, hca, hma⟩ := ha.form
  clear ha
  obtain ⟨hl, hy⟩ := hmk
  have HY := Lib.hid hy; clear hy
  have HS := Lib.hid (cntTo_succ xss)
  have HLE := Lib.hid (cntTo_le xss)
  have HC : Hid (cntIntSS xss = cntTo xss xss.length) := Lib.hid rfl
  generalize cntIntSS xss = tot at *
  generalize hln : xss.length = n at *
  rw [hl] at hca ⊢
  have HN := Lib.hid hln; have HL := Lib.hid hl; clear hln hl
  go_enter Try.func34, Try.ntmps34
  go_wp2_with fail
  go_loopw [1, 5] (fun q i wr => ∃ k : Nat, k ≤ n ∧ i = .int .i64 k ∧ q = .int .i64 (m + (cntTo xss k : Int)) ∧ Hid (Below w.heap.size w wr)) (fun _ i _ => n - (intOf i).toNat)
  case atStart => exact ⟨0, Nat.zero_le _, rfl, by simp [cntTo], Lib.hid (Below.refl _ _)⟩
  case round =>
    obtain ⟨k, hk, rfl, rfl, HB⟩ := hrel
    have hle := HLE.out k
    by_cases hlt : k < n
    · have hA := HA.out
      rw [HL.out] at hA
      obtain ⟨b1, o1, u1, rfl, hb1, hc1, hr1⟩ := (hA.keep HB.out).at_ HL.out hlt
      have hsu := HS.out k hlt
      have hle2 := HLE.out (k + 1)
      obtain ⟨a5, c5, rfl, _, _⟩ := hr1.form
      have CM := Lib.hid (heldIntS_any wr _ (m + (cntTo xss k : Int)) (xss.getD k []) (yss.getD k []) (HY.out k hlt) hr1 (by omega) (by simp only [cntIntS]; omega))
      have HSU := Lib.hid hsu
      have hsum : cntTo xss k + (xss.getD k []).length ≤ tot := by omega
      clear hr1 hA hsu
      generalize hck : cntTo xss k = ck at *
      have HCK := Lib.hid hck; clear hck
      simp only [cntIntS] at CM
      generalize (xss.getD k []).length = lk at *
      go_wp2_with fail
      refine CM.out.mono ?_
      rintro e w2 ⟨rfl, hb2⟩
      replace HB := Lib.hid (HB.out.tr hb2)
      clear hb2 CM
      have hp : decide (m + (ck : Int) + (lk : Int) < 0) = false := by simp; omega
      go_wp2_with fail
      go_roundw
      case rel => exact ⟨k + 1, by omega, by go_num, by rw [HSU.out]; go_num, HB⟩
      case measure => simp [intOf]; omega
    · obtain rfl : k = n := by omega
      have hct := HC.out
      go_wp2_with fail
      go_ret
      exact ⟨by rw [hct]; rfl, HB.out⟩

set_option maxRecDepth 100000 in
set_option maxHeartbeats 1000000 in
theorem szIntSS_ok (w : World) (va : Value) (xss : List (List Int)) (left : Int) (ha : RdIntSS w va xss) (hl : (sizeIntSS xss : Int) ≤ left) (h2 : left ≤ 1048576) :
    Calls Try.prog 24 #[va, .int .i64 left] w fun e w' => e = .returned (.int .i64 (left - (sizeIntSS xss : Int))) ∧ w = w' := by
  have HA := Lib.hid ha
  obtain ⟨a, ca, rfl, hca, hma⟩ := ha.form
  clear ha
  have HS := Lib.hid (cntTo_succ xss)
  have HLE := Lib.hid (cntTo_le xss)
  have HC : Hid (cntIntSS xss = cntTo xss xss.length) := Lib.hid rfl
  unfold sizeIntSS at *
  generalize cntIntSS xss = tot at *
  generalize hln : xss.length = n at *
  have HN := Lib.hid hln; clear hln
  have hl3 : (n : Int) + (tot : Int) ≤ left := by omega
  have t0 : decide (left - (n : Int) < 0) = false := by simp; omega
  go_enter Try.func24, Try.ntmps24
  go_wp2_with fail
  go_loopw [1, 5] (fun q i wr => ∃ k : Nat, k ≤ n ∧ i = .int .i64 k ∧ q = .int .i64 (left - (n : Int) - (cntTo xss k : Int)) ∧ w = wr) (fun _ i _ => n - (intOf i).toNat)
  case atStart => exact ⟨0, Nat.zero_le _, rfl, by simp [cntTo], rfl⟩
  case round =>
    obtain ⟨k, hk, rfl, rfl, rfl⟩ := hrel
    have hle := HLE.out k
    by_cases hlt : k < n
    · obtain ⟨b1, o1, u1, rfl, hb1, hc1, hr1⟩ := HA.out.at_ HN.out hlt
      have hsu := HS.out k hlt
      have hle2 := HLE.out (k + 1)
      obtain ⟨a5, c5, rfl, _, _⟩ := hr1.form
      have CM := Lib.hid (szIntS_ok w _ (xss.getD k []) (left - (n : Int) - (cntTo xss k : Int)) hr1 (by omega) (by omega))
      have HSU := Lib.hid hsu
      have hsum : cntTo xss k + (xss.getD k []).length ≤ tot := by omega
      clear hr1 hsu
      generalize hck : cntTo xss k = ck at *
      have HCK := Lib.hid hck; clear hck
      generalize (xss.getD k []).length = lk at *
      go_wp2_with fail
      refine CM.out.mono ?_
      rintro e w2 ⟨rfl, rfl⟩
      have hp : decide (left - (n : Int) - (ck : Int) - (lk : Int) < 0) = false := by simp; omega
      go_wp2_with fail
      go_roundw
      case rel => exact ⟨k + 1, by omega, by go_num, by rw [HSU.out]; go_num, trivial⟩
      case measure => simp [intOf]; omega
    · obtain rfl : k = n := by omega
      have hct := HC.out
      go_wp2_with fail
      go_ret
      have e : left - (k : Int) - (cntTo xss k : Int) = left - ((k + tot : Nat) : Int) := by omega
      exact ⟨by rw [← e]; rfl, rfl⟩
set_option maxRecDepth 100000 in
set_option maxHeartbeats 1000000 in
theorem szIntSS_no (w : World) (va : Value) (xss : List (List Int)) (left : Int) (ha : RdIntSS w va xss) (hl : left < (sizeIntSS xss : Int)) (h0 : 0 ≤ left) (h2 : left ≤ 1048576) :
    Calls Try.prog 24 #[va, .int .i64 left] w fun e w' => e = .returned (.int .i64 (-1)) ∧ w = w' := by
  have HA := Lib.hid ha
  obtain ⟨a, ca, rfl, hca, hma⟩ := ha.form
  clear ha
  have HS := Lib.hid (cntTo_succ xss)
  have HC : Hid (cntIntSS xss = cntTo xss xss.length) := Lib.hid rfl
  unfold sizeIntSS at *
  generalize cntIntSS xss = tot at *
  generalize hln : xss.length = n at *
  have HN := Lib.hid hln; clear hln
  by_cases hnl : left < (n : Int)
  · have t0 : decide (left - (n : Int) < 0) = true := by simp; omega
    go_enter Try.func24, Try.ntmps24
    go_wp2_with fail
    go_ret
    exact ⟨rfl, rfl⟩
  have t0 : decide (left - (n : Int) < 0) = false := by simp; omega
  go_enter Try.func24, Try.ntmps24
  go_wp2_with fail
  go_loopw [1, 5] (fun q i wr => ∃ k : Nat, k ≤ n ∧ i = .int .i64 k ∧ q = .int .i64 (left - (n : Int) - (cntTo xss k : Int)) ∧ (cntTo xss k : Int) ≤ left - (n : Int) ∧ w = wr) (fun _ i _ => n - (intOf i).toNat)
  case atStart => exact ⟨0, Nat.zero_le _, rfl, by simp [cntTo], by simp [cntTo]; omega, rfl⟩
  case round =>
    obtain ⟨k, hk, rfl, rfl, hle, rfl⟩ := hrel
    by_cases hlt : k < n
    · obtain ⟨b1, o1, u1, rfl, hb1, hc1, hr1⟩ := HA.out.at_ HN.out hlt
      have hsu := HS.out k hlt
      obtain ⟨a5, c5, rfl, _, _⟩ := hr1.form
      have HSU := Lib.hid hsu; clear hsu
      generalize hck : cntTo xss k = ck at *
      have HCK := Lib.hid hck; clear hck
      by_cases hc : ((xss.getD k []).length : Int) ≤ left - (n : Int) - (ck : Int)
      · have CM := Lib.hid (szIntS_ok w _ (xss.getD k []) (left - (n : Int) - (ck : Int)) hr1 hc (by omega))
        clear hr1
        generalize (xss.getD k []).length = lk at *
        go_wp2_with fail
        refine CM.out.mono ?_
        rintro e w2 ⟨rfl, rfl⟩
        have hp : decide (left - (n : Int) - (ck : Int) - (lk : Int) < 0) = false := by simp; omega
        go_wp2_with fail
        go_roundw
        case rel => exact ⟨k + 1, by omega, by go_num, by rw [HSU.out]; go_num, by rw [HSU.out]; omega, trivial⟩
        case measure => simp [intOf]; omega
      · have CM := Lib.hid (szIntS_no w _ (xss.getD k []) (left - (n : Int) - (ck : Int)) hr1 (by omega) (by omega) (by omega))
        clear hr1
        generalize (xss.getD k []).length = lk at *
        go_wp2_with fail
        refine CM.out.mono ?_
        rintro e w2 ⟨rfl, rfl⟩
        go_wp2_with fail
        go_ret
        exact ⟨rfl, rfl⟩
    · obtain rfl : k = n := by omega
      have hct := HC.out
      exfalso; omega
end Go.Proofs.Ytdflpildopefaaa
