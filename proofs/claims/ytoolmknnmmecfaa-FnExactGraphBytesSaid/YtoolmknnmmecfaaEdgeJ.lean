/-
  The record of an edge: the program's function EdgeBody.
-/
import Derived.Test.YtoolmknnmmecfaaEdgeI
namespace Go.Proofs.Ytoolmknnmmecfaa
open Go.RowKit

theorem encode_fits (n : Int) : (encode n).length = 0 ↔ ¬ (0 ≤ n ∧ n ≤ 1000000) := by
  unfold encode
  split
  · rename_i h; have := encF_length 3 n; constructor
    · intro h2; omega
    · intro h2; exact absurd h h2
  · rename_i h; simp [h]
theorem edgeBody_no (a b c : Int) (h : ¬ (0 ≤ a ∧ a ≤ 1000000) ∨ ¬ (0 ≤ b ∧ b ≤ 1000000) ∨ ¬ (0 ≤ c ∧ c ≤ 1000000)) : edgeBody a b c = [] := by
  rw [edgeBody, if_pos (by rw [encode_fits, encode_fits, encode_fits]; exact h)]
theorem edgeBody_yes (a b c : Int) (h : 0 ≤ a ∧ a ≤ 1000000) (h' : 0 ≤ b ∧ b ≤ 1000000) (h'' : 0 ≤ c ∧ c ≤ 1000000) : edgeBody a b c = encode a ++ encode b ++ encode c := by
  rw [edgeBody, if_neg (by rw [encode_fits, encode_fits, encode_fits]; simp only [not_or, Decidable.not_not]; exact ⟨h, h', h''⟩)]
theorem edgeBody_length (a b c : Int) : (edgeBody a b c).length ≤ 12 := by
  have := encode_length a; have := encode_length b; have := encode_length c
  unfold edgeBody; split
  · simp
  · simp; omega

set_option maxRecDepth 100000 in
set_option maxHeartbeats 2000000 in
theorem implEdgeBody_any (w : World) (a b c : Int) : Calls Try.prog 52 #[.agg #[.int .i64 a, .int .i64 b, .int .i64 c]] w (RetI w (edgeBody a b c)) := by
  have hb0 : Below w.heap.size w (w.alloc (.cells #[.int .i64 a, .int .i64 b, .int .i64 c] 38)) := (Below.refl _ _).alloc (Nat.le_refl _) _
  have HB := Lib.hid hb0; clear hb0
  by_cases h0 : 0 ≤ a ∧ a ≤ 1000000
  · have F0 := Lib.hid fun wx => numberFits_yes wx a h0
    by_cases h1 : 0 ≤ b ∧ b ≤ 1000000
    · have F1 := Lib.hid fun wx => numberFits_yes wx b h1
      by_cases h2 : 0 ≤ c ∧ c ≤ 1000000
      · have F2 := Lib.hid fun wx => numberFits_yes wx c h2
        rw [edgeBody_yes a b c h0 h1 h2]
        have l0 := encode_length a; have l1 := encode_length b; have l2 := encode_length c
        have P0 := Lib.hid fun wx q m ad cp xs h1 h2 h3 => put_any wx q m a ad cp xs h1 h2 h3
        have P1 := Lib.hid fun wx q m ad cp xs h1 h2 h3 => put_any wx q m b ad cp xs h1 h2 h3
        have P2 := Lib.hid fun wx q m ad cp xs h1 h2 h3 => put_any wx q m c ad cp xs h1 h2 h3
        clear h0 h1 h2
        generalize encode a = xa at *
        generalize encode b = xb at *
        generalize encode c = xc at *
        have HX := Lib.hid (heap_alloc2_old w (.cells #[.int .i64 a, .int .i64 b, .int .i64 c] 38) (.cells #[.slice none 0 0] 88))
        have HQ := Lib.hid (heap_alloc2_new w (.cells #[.int .i64 a, .int .i64 b, .int .i64 c] 38) (.cells #[.slice none 0 0] 88))
        have hb2 := HB.out.alloc HB.out.size (.cells #[.slice none 0 0] 88)
        have HB2 := Lib.hid hb2; clear hb2 HB
        go_enter Try.func52, Try.ntmps52
        go_wp2_with fail
        refine (F0.out _).mono ?_
        rintro e w' ⟨rfl, rfl⟩
        go_wp2_with fail
        refine (F1.out _).mono ?_
        rintro e w' ⟨rfl, rfl⟩
        go_wp2_with fail
        refine (F2.out _).mono ?_
        rintro e w' ⟨rfl, rfl⟩
        go_wp2_with fail
        generalize ((w.alloc (.cells #[.int .i64 a, .int .i64 b, .int .i64 c] 38)).alloc (.cells #[.slice none 0 0] 88)) = w2 at *
        refine (P0.out w2 (w.heap.size + 1) 0 none 0 [] HQ.out (World.ownsRow_nil _ _ _ _) (by omega)).mono ?_
        rintro e w3 ⟨v3, rfl, hq3, ho3, hb3⟩
        simp only [Nat.zero_add, List.nil_append] at ho3
        obtain ⟨_, a3, c3, rfl, _, _, _⟩ := Rd.of_own ho3
        replace HQ := Lib.hid hq3; have HO := Lib.hid ho3; replace HX := Lib.hid ((hb3.block w.heap.size (by omega)).trans HX.out); replace HB2 := Lib.hid (HB2.out.trans (hb3.mono (by omega)))
        clear hq3 ho3 hb3 P0 F0 F1 F2
        have k1 := box_cell HX.out 1 _ rfl
        go_wp2_with fail
        refine (P1.out _ _ _ _ _ _ HQ.out HO.out (by omega)).mono ?_
        rintro e w4 ⟨v4, rfl, hq4, ho4, hb4⟩
        obtain ⟨_, a4, c4, rfl, _, _, _⟩ := Rd.of_own ho4
        replace HQ := Lib.hid hq4; replace HO := Lib.hid ho4; replace HX := Lib.hid ((hb4.block w.heap.size (by omega)).trans HX.out); replace HB2 := Lib.hid (HB2.out.trans (hb4.mono (by omega)))
        clear hq4 ho4 hb4 P1 k1
        have k2 := box_cell HX.out 2 _ rfl
        go_wp2_with fail
        refine (P2.out _ _ _ _ _ _ HQ.out HO.out (by omega)).mono ?_
        rintro e w5 ⟨v5, rfl, hq5, ho5, hb5⟩
        obtain ⟨_, a5, c5, rfl, _, _, _⟩ := Rd.of_own ho5
        replace HQ := Lib.hid hq5; replace HO := Lib.hid ho5; replace HB2 := Lib.hid (HB2.out.trans (hb5.mono (by omega)))
        clear hq5 ho5 hb5 P2 k2 HX
        have k3 := box_cell HQ.out 0 _ rfl
        go_wp2_with fail
        go_ret
        refine ⟨_, rfl, ?_, HB2.out⟩
        have h9 := (Ow.of_row HO.out).mono (lo' := w.heap.size) (by omega) (Nat.le_refl _)
        have e9 : (xa ++ xb ++ xc).length = xa.length + xb.length + xc.length := by simp; omega
        rw [e9]; exact h9
      · rw [edgeBody_no a b c (.inr (.inr h2))]
        have F2 := Lib.hid fun wx => numberFits_no wx c h2
        clear h0 h1 h2
        go_enter Try.func52, Try.ntmps52
        go_wp2_with fail
        refine (F0.out _).mono ?_
        rintro e w' ⟨rfl, rfl⟩
        go_wp2_with fail
        refine (F1.out _).mono ?_
        rintro e w' ⟨rfl, rfl⟩
        go_wp2_with fail
        refine (F2.out _).mono ?_
        rintro e w' ⟨rfl, rfl⟩
        go_wp2_with fail
        go_ret
        exact ⟨_, rfl, Ow.nil _ _ _ _ _ _, HB.out⟩
    · rw [edgeBody_no a b c (.inr (.inl h1))]
      have F1 := Lib.hid fun wx => numberFits_no wx b h1
      clear h0 h1
      go_enter Try.func52, Try.ntmps52
      go_wp2_with fail
      refine (F0.out _).mono ?_
      rintro e w' ⟨rfl, rfl⟩
      go_wp2_with fail
      refine (F1.out _).mono ?_
      rintro e w' ⟨rfl, rfl⟩
      go_wp2_with fail
      go_ret
      exact ⟨_, rfl, Ow.nil _ _ _ _ _ _, HB.out⟩
  · rw [edgeBody_no a b c (.inl h0)]
    have F0 := Lib.hid fun wx => numberFits_no wx a h0
    clear h0
    go_enter Try.func52, Try.ntmps52
    go_wp2_with fail
    refine (F0.out _).mono ?_
    rintro e w' ⟨rfl, rfl⟩
    go_wp2_with fail
    go_ret
    exact ⟨_, rfl, Ow.nil _ _ _ _ _ _, HB.out⟩
end Go.Proofs.Ytoolmknnmmecfaa
