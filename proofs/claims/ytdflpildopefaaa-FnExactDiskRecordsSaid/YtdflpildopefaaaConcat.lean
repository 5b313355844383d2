/-
  slices.Grow of nil, slices.Concat, at ints.
-/
import Derived.Test.YtdflpildopefaaaIntSS
import Derived.Lib.AppendZerosOnto
namespace Go.Proofs.Ytdflpildopefaaa
open Go.RowKit
set_option linter.unusedVariables false

theorem flat_snoc (xss : List (List Int)) (k : Nat) (h : k < xss.length) : (xss.take (k + 1)).flatten = (xss.take k).flatten ++ xss.getD k [] := by
  rw [rowTake_snoc xss k h]; simp
theorem flat_length (xss : List (List Int)) (k : Nat) : (xss.take k).flatten.length = cntTo xss k := by simp [cntTo, List.length_flatten]

set_option maxRecDepth 100000 in
set_option maxHeartbeats 1000000 in
theorem growInt_nil (w : World) (n : Nat) (hn : n ≤ 1099511627776) :
    Calls Try.prog 82 #[.slice none 0 0, .int .i64 (n : Int)] w fun e w' => ∃ v, e = .returned v ∧ w'.ownsRow w.heap.size 3 1 v 0 [] ∧ Below w.heap.size w w' := by
  by_cases h0 : n = 0
  · subst h0
    go_enter Try.func82, Try.ntmps82
    go_wp2_with fail
    go_ret
    exact ⟨_, rfl, World.ownsRow_nil _ _ _ _, Below.refl _ _⟩
  · obtain ⟨i0, hi, hz0, hz1, hz2⟩ := info_parts infoInt
    have hG := grownCap_ge w n 0 3
    have hGm := grownCap_le_maxLen w n 0 3 (by unfold maxLen; omega)
    have hsz : (Builtin.zeroCells #[.int .i64 0] n ++ Builtin.zeroCells #[.int .i64 0] (grownCap w n 0 3 - n)).size = grownCap w n 0 3 * 1 := by
      simp [Builtin.zeroCells]; omega
    have HSZ := Lib.hid hsz; have HGM := Lib.hid hGm; clear hsz hG hGm hi hz0 hz1 hz2
    have hpos : 0 < n := by omega
    clear h0
    go_enter Try.func82, Try.ntmps82
    have hty : Try.t3.bytes = 8 := rfl
    have hno : ¬ (281474976710656 < Builtin.nextslicecap n 0 * Try.t3.bytes) := by rw [nextslicecap_zero hpos, hty]; omega
    have hno2 : ¬ (281474976710656 < (n : Int) * (Try.t3.bytes : Int)) := by rw [hty]; omega
    go_wp2_with fail
    clear hty hno hno2
    have hgc : (Question.appendCap n 0 3).cut (w.tape w.drawn (Question.appendCap n 0 3)) = grownCap w n 0 3 := rfl
    rw [hgc]
    clear hgc
    generalize grownCap w n 0 3 = gc at *
    go_ret
    exact ⟨_, rfl, World.ownsRow_made (size := 1) w _ gc (Nat.le_refl _) HGM.out HSZ.out, ((Below.refl _ _).alloc (Nat.le_refl _) _).drew⟩

set_option maxRecDepth 100000 in
set_option maxHeartbeats 2000000 in
theorem concatInt_any (w : World) (va : Value) (xss : List (List Int)) (ha : RdIntSS w va xss) (hs : cntIntSS xss ≤ 1099511627776) :
    Calls Try.prog 81 #[va] w (RetI w xss.flatten) := by
  have HR := Lib.hid ha
  obtain ⟨a, ca, rfl, hca, hma⟩ := ha.form
  clear ha
  have HS := Lib.hid (cntTo_succ xss)
  have HLE := Lib.hid (cntTo_le xss)
  have HFS := Lib.hid (flat_snoc xss)
  have HFL := Lib.hid (flat_length xss)
  have HALL : Hid (xss.take xss.length = xss) := Lib.hid (List.take_of_length_le (Nat.le_refl _))
  have HC : Hid (cntIntSS xss = cntTo xss xss.length) := Lib.hid rfl
  generalize cntIntSS xss = tot at *
  generalize hn : xss.length = n at *
  have HN := Lib.hid hn; clear hn
  have HZ : Hid (cntTo xss 0 = 0) := Lib.hid (by simp [cntTo])
  go_enter Try.func81, Try.ntmps81
  go_wp2_with fail
  go_loopw [3, 11] (fun q i wr => ∃ k : Nat, k ≤ n ∧ i = .int .i64 k ∧ q = .int .i64 (cntTo xss k : Int) ∧ w = wr) (fun _ i _ => n - (intOf i).toNat)
  case atStart => exact ⟨0, Nat.zero_le _, rfl, by rw [HZ.out]; rfl, rfl⟩
  case round =>
    obtain ⟨k, hk, rfl, rfl, rfl⟩ := hrel
    have hle := HLE.out k
    by_cases hlt : k < n
    · obtain ⟨b, off, u, rfl, hb, hc, hr⟩ := HR.out.at_ HN.out hlt
      obtain ⟨a2, c2, rfl, hc2, hm2⟩ := hr.form
      have hsu := HS.out k hlt
      have hle2 := HLE.out (k + 1)
      generalize (xss.getD k []).length = l at *
      have HSU := Lib.hid hsu; clear hsu hr
      have hsum : cntTo xss k + l ≤ tot := by rw [← HSU.out]; exact hle2
      generalize hck : cntTo xss k = ck at *
      have HCK := Lib.hid hck; clear hck
      go_wp2_with fail
      go_roundw
      case rel => exact ⟨k + 1, by omega, by go_num, by rw [HSU.out]; go_num, trivial⟩
      case measure => simp [intOf]; omega
    · obtain rfl : k = n := by omega
      have hct := HC.out
      rw [← hct]
      have G := Lib.hid (growInt_nil w tot hs)
      clear hct hle
      go_wp2_with fail
      refine G.out.mono ?_
      rintro e w1 ⟨v1, rfl, ho1, hb1⟩
      have HO := Lib.hid ho1; have HB := Lib.hid hb1; clear ho1 hb1 G
      go_wp2_with fail
      go_loopw [6, 27] (fun v i wr => ∃ j : Nat, j ≤ k ∧ i = .int .i64 j ∧ Hid (wr.ownsRow w.heap.size 3 1 v (cntTo xss j) (ints (xss.take j).flatten)) ∧ Hid (Below w.heap.size w wr)) (fun _ i _ => k - (intOf i).toNat)
      case atStart => exact ⟨0, Nat.zero_le _, rfl, by rw [HZ.out]; exact HO, HB⟩
      case round =>
        clear HO HB
        obtain ⟨j, hj, rfl, HO, HB⟩ := hrel
        have hle := HLE.out j
        by_cases hlt : j < k
        · obtain ⟨b, off, u, rfl, hb, hc, hr⟩ := (HR.out.keep HB.out).at_ HN.out hlt
          have hsu := HS.out j hlt
          have hle2 := HLE.out (j + 1)
          have HFE := Lib.hid (HFS.out j hlt)
          have HRU := Lib.hid hr; clear hr
          generalize xss.getD j [] = ys at *
          generalize hl : ys.length = l at *
          have HL := Lib.hid hl; clear hl
          have HSU := Lib.hid hsu; clear hsu
          have hsum : cntTo xss j + l ≤ tot := by rw [← HSU.out]; exact hle2
          have hsz := HB.out.size
          go_wp2_with (at_builtin; refine wpList_pushAllB rfl _ _ 23 3 rfl (.int .i64 0) 1 8 Try.underlying23 infoInt rfl (by decide) (by decide) w.heap.size _ _ _ HO.out rfl u l (ints ys) (by have := HRU.out; rw [RdIntS, HL.out] at this; exact this) rfl (ints_one ys) (by omega) (by omega) hsz ?_; intro v5 w5 hown5 hbel5 hne5; have HO5 := Lib.hid hown5; have HB5 := Lib.hid (HB.out.trans hbel5); clear hown5 hbel5 hne5)
          go_roundw
          case rel =>
            refine ⟨j + 1, by omega, by go_num, ?_, HB5⟩
            rw [HSU.out, HFE.out, ints_append]; exact HO5
          case measure => simp [intOf]; omega
        · obtain rfl : j = k := by omega
          go_wp2_with fail
          go_ret
          have h := Ow.of_row HO.out
          rw [HALL.out] at h
          have hlen : xss.flatten.length = cntTo xss j := by rw [← HFL.out j, HALL.out]
          exact ⟨_, rfl, by rw [hlen]; exact h, HB.out⟩
end Go.Proofs.Ytdflpildopefaaa
