/-
  MostFrequent: the number that stands most often in a list: the program's function (by a map of counts) and the reference's (by two loops).
-/
import Derived.Test.YtddhnngaopjjnaaInts
import Derived.Test.YtddhnngaopjjnaaPure
import Derived.Maps.OwnOps
namespace Go.Proofs.Ytddhnngaopjjnaa
open Go.RowKit Go.Maps

/-- One step: x stands c times; is it better than what was found? -/
def mfStep (xs : List Int) (s : Int × Int) (x : Int) : Int × Int :=
  if (xs.count x : Int) > s.2 ∨ ((xs.count x : Int) = s.2 ∧ x < s.1) then (x, (xs.count x : Int)) else s
def mfTo (xs : List Int) (k : Nat) : Int × Int := (xs.take k).foldl (mfStep xs) (0, 0)
def mostFreq (xs : List Int) : Int := (mfTo xs xs.length).1
theorem mfTo_succ (xs : List Int) (k : Nat) (h : k < xs.length) : mfTo xs (k + 1) = mfStep xs (mfTo xs k) (xs.getD k 0) := by
  rw [mfTo, take_snoc xs k 0 h, List.foldl_append]; rfl
theorem mfStep_yes (xs : List Int) (s : Int × Int) (x : Int) (h : (xs.count x : Int) > s.2 ∨ ((xs.count x : Int) = s.2 ∧ x < s.1)) : mfStep xs s x = (x, (xs.count x : Int)) := by rw [mfStep, if_pos h]
theorem mfStep_no (xs : List Int) (s : Int × Int) (x : Int) (h : ¬ ((xs.count x : Int) > s.2 ∨ ((xs.count x : Int) = s.2 ∧ x < s.1))) : mfStep xs s x = s := by rw [mfStep, if_neg h]
theorem count_step (xs : List Int) (x : Int) (j : Nat) (h : j < xs.length) : (xs.take (j + 1)).count x = (xs.take j).count x + if xs.getD j 0 = x then 1 else 0 := by
  rw [take_snoc xs j 0 h, List.count_append, List.count_singleton]
  simp
theorem count_le (xs : List Int) (x : Int) (j : Nat) : (xs.take j).count x ≤ j := Nat.le_trans List.count_le_length (List.length_take_le _ _)
theorem mfTo_rng (xs : List Int) (k : Nat) : 0 ≤ (mfTo xs k).2 ∧ (mfTo xs k).2 ≤ xs.length := by
  unfold mfTo
  suffices h : ∀ (l : List Int) (s : Int × Int), (0 ≤ s.2 ∧ s.2 ≤ xs.length) → 0 ≤ (l.foldl (mfStep xs) s).2 ∧ (l.foldl (mfStep xs) s).2 ≤ xs.length from h _ _ ⟨by simp, by simp⟩
  intro l
  induction l with
  | nil => intro s h; exact h
  | cons x l ih =>
    intro s h
    refine ih (mfStep xs s x) ?_
    unfold mfStep
    split
    · have : xs.count x ≤ xs.length := List.count_le_length
      simp; omega
    · exact h

set_option maxRecDepth 100000 in
set_option maxHeartbeats 1000000 in
theorem specMostFrequent_any (w : World) (va : Value) (xs : List Int) (ha : RdIntS w va xs) (hs : xs.length ≤ 1048576) :
    Calls Try.prog 38 #[va] w fun e w' => e = .returned (.int .i64 (mostFreq xs)) ∧ Below w.heap.size w w' := by
  obtain ⟨a, ca, rfl, hca, hma, Ha⟩ := ha.int
  clear ha
  unfold mostFreq
  generalize hn : xs.length = n at *
  have Hn := Lib.hid hn; clear hn
  go_enter Try.func38, Try.ntmps38
  go_wp2_with fail
  go_loopw [3, 4, 5] (fun b c i wr => ∃ k : Nat, k ≤ n ∧ i = .int .i64 k ∧ b = .int .i64 (mfTo xs k).1 ∧ c = .int .i64 (mfTo xs k).2 ∧ Hid (Below w.heap.size w wr)) (fun _ _ i _ => n - (intOf i).toNat)
  case atStart => exact ⟨0, Nat.zero_le _, rfl, rfl, rfl, Lib.hid (Below.refl _ _)⟩
  case round =>
    obtain ⟨k, hk, rfl, rfl, rfl, HB⟩ := hrel
    by_cases hlt : k < n
    · have hms := mfTo_succ xs k (by rw [Hn.out]; exact hlt)
      have HMS := Lib.hid hms; clear hms
      have hmr := mfTo_rng xs k
      rw [Hn.out] at hmr
      obtain ⟨mr1, mr2⟩ := hmr
      generalize hst : mfTo xs k = st at *
      obtain ⟨sb, sc⟩ := st
      simp only at mr1 mr2
      have HST := Lib.hid hst; clear hst
      obtain ⟨wo, hwo⟩ : ∃ wo : World, wo = wr := ⟨_, rfl⟩
      subst hwo
      generalize hx : xs.getD k 0 = x at *
      have HX := Lib.hid hx; clear hx
      dsimp only
      go_wp2_with fail
      go_loopw [6, 7] (fun c j wr => ∃ q : Nat, q ≤ n ∧ j = .int .i64 q ∧ c = .int .i64 ((xs.take q).count x : Int) ∧ Hid (Below w.heap.size w wr)) (fun _ j _ => n - (intOf j).toNat)
      case atStart => exact ⟨0, Nat.zero_le _, rfl, by simp, HB⟩
      case round =>
        obtain ⟨q, hq, rfl, rfl, HB2⟩ := hrel
        obtain ⟨b1, o1, rfl, hb1, hc1⟩ := Ha.out k hlt
        rw [HX.out] at hc1
        have h1 := (HB2.out.cell (p := ⟨b1, o1 + k, none⟩) hb1).trans hc1
        clear hc1
        by_cases hlq : q < n
        · obtain ⟨b2, o2, e2, hb2, hc2⟩ := Ha.out q hlq
          simp only [Option.some.injEq, Addr.mk.injEq, and_true] at e2
          obtain ⟨rfl, rfl⟩ := e2
          have h2 := (HB2.out.cell (p := ⟨b1, o1 + q, none⟩) hb1).trans hc2
          have hcs := count_step xs x q (by rw [Hn.out]; exact hlq)
          have hcl := count_le xs x q
          have HCS := Lib.hid hcs; clear hc2 Ha hcs
          generalize hy : xs.getD q 0 = y at *
          have HY := Lib.hid hy; clear hy
          generalize hcc : (xs.take q).count x = cc at *
          have HCC := Lib.hid hcc; clear hcc
          by_cases hxy : y = x
          · subst hxy
            go_wp2_with fail
            go_quiet (fail)
            go_wp2_with fail
            go_roundw
            case rel => exact ⟨q + 1, by omega, by go_num, by rw [HCS.out]; simp, Lib.hid (HB2.out.drewN' _)⟩
            case measure => simp [intOf]; omega
          · have hxy' : (y == x) = false := by simpa using hxy
            have HXY := Lib.hid hxy; clear hxy
            go_wp2_with fail
            go_quiet (fail)
            go_wp2_with fail
            go_roundw
            case rel => exact ⟨q + 1, by omega, by go_num, by rw [HCS.out, if_neg HXY.out]; simp, Lib.hid (HB2.out.drewN' _)⟩
            case measure => simp [intOf]; omega
        · have hqn : Hid (q = n) := Lib.hid (by omega)
          have hct : Hid ((xs.take q).count x = xs.count x) := Lib.hid (by rw [List.take_of_length_le (by rw [Hn.out, hqn.out]; exact Nat.le_refl _)])
          generalize (xs.take q).count x = cc at *
          clear Ha
          have HYES := Lib.hid (mfStep_yes xs (sb, sc) x); have HNO := Lib.hid (mfStep_no xs (sb, sc) x)
          rw [← hct.out] at HYES HNO
          by_cases t1 : (cc : Int) > sc
          · go_wp2_with fail
            go_roundw
            case rel => exact ⟨k + 1, by omega, by go_num, by rw [HMS.out, HYES.out (.inl t1)], by rw [HMS.out, HYES.out (.inl t1)], HB2⟩
            case measure => simp [intOf]; omega
          · by_cases t2 : (cc : Int) = sc
            · have t2' : ((cc : Int) == sc) = true := by simpa using t2
              have T2 := Lib.hid t2; clear t2
              by_cases t3 : x < sb
              · go_wp2_with fail
                go_roundw
                case rel => exact ⟨k + 1, by omega, by go_num, by rw [HMS.out, HYES.out (.inr ⟨T2.out, t3⟩)], by rw [HMS.out, HYES.out (.inr ⟨T2.out, t3⟩)], HB2⟩
                case measure => simp [intOf]; omega
              · go_wp2_with fail
                go_roundw
                case rel => exact ⟨k + 1, by omega, by go_num, by rw [HMS.out, HNO.out (fun h => h.elim t1 (fun h => t3 h.2))], by rw [HMS.out, HNO.out (fun h => h.elim t1 (fun h => t3 h.2))], HB2⟩
                case measure => simp [intOf]; omega
            · have t2' : ((cc : Int) == sc) = false := by simpa using t2
              go_wp2_with fail
              go_roundw
              case rel => exact ⟨k + 1, by omega, by go_num, by rw [HMS.out, HNO.out (fun h => h.elim t1 (fun h => t2 h.1))], by rw [HMS.out, HNO.out (fun h => h.elim t1 (fun h => t2 h.1))], HB2⟩
              case measure => simp [intOf]; omega
    · obtain rfl : k = n := by omega
      go_wp2_with fail
      go_ret
      exact ⟨rfl, HB.out⟩

theorem intKeyed : Keyed Try.prog 3 := int_keyed Try.underlying3
theorem zeroInt (w : World) : (zeroValue 3).run Try.prog w = .ok (.int .i64 0) w := by kernel_rfl
theorem wf_of_in64 {x : Int} (h : In64 x) : (Lit.int .i64 x).wf = true := WalkArith.wf_i64 h
/-- The map of counts: at x it holds how often x stands in xs. -/
def Counts (D : DataW Unit) (xs : List Int) : Prop := IsMap D ∧ ∀ x, D.atKey (.int .i64 x) (.lit (.int .i64 0)) = .lit (.int .i64 (xs.count x : Int))
theorem Counts.start : Counts (.map []) [] := ⟨⟨[], rfl⟩, fun x => by simp [DataW.atKey]⟩
theorem Counts.at {D : DataW Unit} {xs : List Int} (h : Counts D xs) {x c : Int} (hc : D.atKey (.int .i64 x) (.lit (.int .i64 0)) = .lit (.int .i64 c)) : c = (xs.count x : Int) := by
  have := (h.2 x).symm.trans hc
  simpa using this.symm
theorem Counts.put {D : DataW Unit} {xs : List Int} (h : Counts D xs) (x : Int) : Counts (D.put (.int .i64 x) (.lit (.int .i64 ((xs.count x : Int) + 1)))) (xs ++ [x]) := by
  refine ⟨h.1.put _ _, fun y => ?_⟩
  rw [List.count_append, List.count_singleton]
  by_cases hxy : y = x
  · subst hxy
    rw [atKey_put_same h.1 (by simp [WideAt.IsKeyLit])]
    simp
  · rw [atKey_put_other (by simpa using hxy), h.2 y]
    have : (x == y) = false := by simpa using fun e => hxy e.symm
    simp [this]

set_option maxRecDepth 100000 in
set_option maxHeartbeats 1000000 in
theorem implMostFrequent_any (w : World) (va : Value) (xs : List Int) (ha : RdIntS w va xs) (hs : xs.length ≤ 1048576) (hg : WfIntS xs) :
    Calls Try.prog 37 #[va] w fun e w' => e = .returned (.int .i64 (mostFreq xs)) ∧ Below w.heap.size w w' := by
  obtain ⟨a, ca, rfl, hca, hma, Ha⟩ := ha.int
  clear ha
  unfold mostFreq
  generalize hn : xs.length = n at *
  have Hn := Lib.hid hn; have HG := Lib.hid hg; clear hn hg
  have hmm := @run_makeMap Try.prog
  go_enter Try.func37, Try.ntmps37
  go_wp2_with fail
  go_loopw [14] (fun i wr => ∃ (k : Nat) (D : DataW Unit), k ≤ n ∧ i = .int .i64 k ∧ Hid (wr.ownsMap Try.prog 3 (plainElem Try.prog 3) w.heap.size k D) ∧ Hid (Counts D (xs.take k)) ∧ Hid (Below w.heap.size w wr)) (fun i _ => n - (intOf i).toNat)
  case atStart => exact ⟨0, .map [], Nat.zero_le _, rfl, Lib.hid (World.ownsMap_made _ _ _ _), Lib.hid Counts.start, Lib.hid ((Below.refl _ _).alloc (Nat.le_refl _) _)⟩
  case round =>
    obtain ⟨k, D, hk, rfl, HO, HD, HB⟩ := hrel
    by_cases hlt : k < n
    · obtain ⟨b1, o1, rfl, hb1, hc1⟩ := Ha.out k hlt
      have h1 := (HB.out.cell (p := ⟨b1, o1 + k, none⟩) hb1).trans hc1
      have hw := wf_of_in64 (HG.out (xs.getD k 0) (getD_mem (by rw [Hn.out]; exact hlt)))
      have hts := take_snoc xs k 0 (by rw [Hn.out]; exact hlt)
      have hcl := count_le xs (xs.getD k 0) k
      have HTS := Lib.hid hts; have HW := Lib.hid hw
      clear hc1 Ha hts hw
      generalize hx : xs.getD k 0 = x at *
      have HX := Lib.hid hx; clear hx
      go_wp2_with (first
        | (at_lookup; refine wpList_lookup_own_int _ rfl _ _ 81 rfl 3 3 .i64 intKeyed Try.underlying81 Try.underlying3 (zeroInt _) w.heap.size k _ rfl HO.out _ _ rfl (keyOf_int_mk Try.underlying3 HW.out) ?_; intro c hat hwc; obtain rfl := HD.out.at hat; clear hat hwc)
        | (at_mapUpdate; refine wpList_mapUpdate_own _ rfl _ _ _ 81 rfl 3 3 intKeyed Try.underlying81 _ w.heap.size k _ rfl HO.out (by unfold maxLen; omega) _ _ _ rfl rfl (keyOf_int_mk Try.underlying3 HW.out) _ [] (plainElem_int Try.underlying3 (WalkArith.wf_i64 ⟨by omega, by omega⟩)) ?_; intro w1 hown1 hgrow1))
      go_roundw
      case rel => exact ⟨k + 1, _, by omega, by go_num, Lib.hid hown1, Lib.hid (by rw [HTS.out]; exact HD.out.put x), Lib.hid (HB.out.grown hgrow1 HB.out.size (fun j hj => by cases hj; exact Nat.le_refl _))⟩
      case measure => simp [intOf]; omega
    · have hkn : Hid (k = n) := Lib.hid (by omega)
      have HD' : Hid (Counts D xs) := Lib.hid (by have := HD.out; rwa [List.take_of_length_le (by rw [Hn.out, hkn.out]; exact Nat.le_refl _)] at this)
      clear HD
      obtain ⟨wo, hwo⟩ : ∃ wo : World, wo = wr := ⟨_, rfl⟩
      subst hwo
      go_wp2_with fail
      go_loopw [6, 7, 25] (fun b c i wr => ∃ q : Nat, q ≤ n ∧ i = .int .i64 q ∧ b = .int .i64 (mfTo xs q).1 ∧ c = .int .i64 (mfTo xs q).2 ∧ Hid (wr.ownsMap Try.prog 3 (plainElem Try.prog 3) w.heap.size k D) ∧ Hid (Below w.heap.size w wr)) (fun _ _ i _ => n - (intOf i).toNat)
      case atStart => exact ⟨0, Nat.zero_le _, rfl, rfl, rfl, HO, HB⟩
      case round =>
        clear HO HB
        obtain ⟨q, hq, rfl, rfl, rfl, HO, HB⟩ := hrel
        by_cases hlq : q < n
        · obtain ⟨b1, o1, rfl, hb1, hc1⟩ := Ha.out q hlq
          have h1 := (HB.out.cell (p := ⟨b1, o1 + q, none⟩) hb1).trans hc1
          have hw := wf_of_in64 (HG.out (xs.getD q 0) (getD_mem (by rw [Hn.out]; exact hlq)))
          have hms := mfTo_succ xs q (by rw [Hn.out]; exact hlq)
          have hmr := mfTo_rng xs q
          have hcl : xs.count (xs.getD q 0) ≤ n := by rw [← Hn.out]; exact List.count_le_length
          rw [Hn.out] at hmr
          obtain ⟨mr1, mr2⟩ := hmr
          have HMS := Lib.hid hms; have HW := Lib.hid hw; clear hms hw hc1 Ha
          generalize hst : mfTo xs q = st at *
          obtain ⟨sb, sc⟩ := st
          simp only at mr1 mr2
          have HST := Lib.hid hst; clear hst
          generalize hx : xs.getD q 0 = x at *
          have HX := Lib.hid hx; clear hx
          have HYES := Lib.hid (mfStep_yes xs (sb, sc) x); have HNO := Lib.hid (mfStep_no xs (sb, sc) x)
          have HAT := Lib.hid (fun (c : Int) => HD'.out.at (x := x) (c := c))
          generalize xs.count x = cc at *
          dsimp only
          by_cases t1 : (cc : Int) > sc
          · go_wp2_with (at_lookup; refine wpList_lookup_own_int _ rfl _ _ 81 rfl 3 3 .i64 intKeyed Try.underlying81 Try.underlying3 (zeroInt _) w.heap.size k _ rfl HO.out _ _ rfl (keyOf_int_mk Try.underlying3 HW.out) ?_; intro c hat hwc; obtain rfl := HAT.out _ hat; clear hat hwc)
            go_roundw
            case rel => exact ⟨q + 1, by omega, by go_num, by rw [HMS.out, HYES.out (.inl t1)], by rw [HMS.out, HYES.out (.inl t1)], HO, HB⟩
            case measure => simp [intOf]; omega
          · by_cases t2 : (cc : Int) = sc
            · have t2' : ((cc : Int) == sc) = true := by simpa using t2
              have T2 := Lib.hid t2; clear t2
              by_cases t3 : x < sb
              · go_wp2_with (at_lookup; refine wpList_lookup_own_int _ rfl _ _ 81 rfl 3 3 .i64 intKeyed Try.underlying81 Try.underlying3 (zeroInt _) w.heap.size k _ rfl HO.out _ _ rfl (keyOf_int_mk Try.underlying3 HW.out) ?_; intro c hat hwc; obtain rfl := HAT.out _ hat; clear hat hwc)
                go_roundw
                case rel => exact ⟨q + 1, by omega, by go_num, by rw [HMS.out, HYES.out (.inr ⟨T2.out, t3⟩)], by rw [HMS.out, HYES.out (.inr ⟨T2.out, t3⟩)], HO, HB⟩
                case measure => simp [intOf]; omega
              · go_wp2_with (at_lookup; refine wpList_lookup_own_int _ rfl _ _ 81 rfl 3 3 .i64 intKeyed Try.underlying81 Try.underlying3 (zeroInt _) w.heap.size k _ rfl HO.out _ _ rfl (keyOf_int_mk Try.underlying3 HW.out) ?_; intro c hat hwc; obtain rfl := HAT.out _ hat; clear hat hwc)
                go_roundw
                case rel => exact ⟨q + 1, by omega, by go_num, by rw [HMS.out, HNO.out (fun h => h.elim t1 (fun h => t3 h.2))], by rw [HMS.out, HNO.out (fun h => h.elim t1 (fun h => t3 h.2))], HO, HB⟩
                case measure => simp [intOf]; omega
            · have t2' : ((cc : Int) == sc) = false := by simpa using t2
              go_wp2_with (at_lookup; refine wpList_lookup_own_int _ rfl _ _ 81 rfl 3 3 .i64 intKeyed Try.underlying81 Try.underlying3 (zeroInt _) w.heap.size k _ rfl HO.out _ _ rfl (keyOf_int_mk Try.underlying3 HW.out) ?_; intro c hat hwc; obtain rfl := HAT.out _ hat; clear hat hwc)
              go_roundw
              case rel => exact ⟨q + 1, by omega, by go_num, by rw [HMS.out, HNO.out (fun h => h.elim t1 (fun h => t2 h.1))], by rw [HMS.out, HNO.out (fun h => h.elim t1 (fun h => t2 h.1))], HO, HB⟩
              case measure => simp [intOf]; omega
        · have hqn : Hid (q = n) := Lib.hid (by omega)
          go_wp2_with fail
          go_ret
          exact ⟨by rw [hqn.out]; rfl, HB.out⟩
end Go.Proofs.Ytddhnngaopjjnaa
