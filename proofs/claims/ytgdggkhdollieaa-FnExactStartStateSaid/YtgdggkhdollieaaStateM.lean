/-
  States that are marked, and looked at for their marks.
-/
import Derived.Test.YtgdggkhdollieaaState
namespace Go.Proofs.Ytgdggkhdollieaa
open Go.RowKit
set_option linter.unusedVariables false

def cntState (s : StateD) : Nat := cntIntS s.2.1 + cntBoolS s.2.2.1 + cntMessageS s.2.2.2
def MkState (m : Int) (s y : StateD) : Prop := y.1 = s.1 ∧ MkIntS m s.2.1 y.2.1 ∧ MkBoolS (m + (cntIntS s.2.1 : Int)) s.2.2.1 y.2.2.1 ∧ MkMessageS (m + (cntIntS s.2.1 : Int) + (cntBoolS s.2.2.1 : Int)) s.2.2.2 y.2.2.2
/-- An interval of its own for a list that is owned. -/
theorem Ow.own {lo hi : Nat} {w : World} {e : TypeId} {size n : Nat} {v : Value} {cs : List Value} (h : Ow lo hi w e size v n cs) : ∃ a b, Ow a b w e size v n cs ∧ (b = 0 ∨ (lo ≤ a ∧ b = a + 1 ∧ b ≤ hi ∧ ∃ cur, w.heap[a]? = some (.cells cur e (0, 0)))) := by
  rcases h with ⟨rfl, rfl, a, rfl⟩ | ⟨h1, g, cap, cur, rfl, hb, hh, hg, r⟩
  · exact ⟨0, 0, Ow.nil _ _ _ _ _ _, .inl rfl⟩
  · exact ⟨g, g + 1, .inr ⟨h1, g, cap, cur, rfl, Nat.le_refl _, by omega, hg, r⟩, .inr ⟨hb, rfl, by omega, cur, hg⟩⟩
theorem Chg.wide {a b lo hi : Nat} {w w' : World} (h : Chg a b w w') (k : b = 0 ∨ (lo ≤ a ∧ b ≤ hi)) : Chg lo hi w w' := by
  rcases k with rfl | ⟨h1, h2⟩
  · exact Chg.of_below (h.below_of (Nat.zero_le _))
  · exact h.mono h1 h2
theorem Ow.wide {a b lo hi n : Nat} {w : World} {e : TypeId} {size : Nat} {v : Value} {cs : List Value} (h : Ow a b w e size v n cs) (k : b = 0 ∨ (lo ≤ a ∧ b ≤ hi)) : Ow lo hi w e size v n cs := by
  rcases k with rfl | ⟨h1, h2⟩
  · rcases h with h | ⟨_, g, _, _, _, _, hh, _⟩
    · exact .inl h
    · omega
  · exact h.mono h1 h2
theorem OwState.apart {lo hi : Nat} {w : World} {v : Value} {s : StateD} (h : OwState lo hi w v s) : ∃ v1 v2 v3 a1 b1 a2 b2 a3 b3, v = .agg #[.int .i64 s.1, v1, v2, v3] ∧ OwIntS a1 b1 w v1 s.2.1 ∧ OwBoolS a2 b2 w v2 s.2.2.1 ∧ Ow a3 b3 w 33 3 v3 s.2.2.2.length (tris s.2.2.2) ∧
    (b1 = 0 ∨ (lo ≤ a1 ∧ b1 ≤ hi)) ∧ (b2 = 0 ∨ (lo ≤ a2 ∧ b2 ≤ hi)) ∧ (b3 = 0 ∨ (lo ≤ a3 ∧ b3 ≤ hi)) ∧ (b1 ≤ a2 ∨ b2 ≤ a1) ∧ (b1 ≤ a3 ∨ b3 ≤ a1) ∧ (b2 ≤ a3 ∨ b3 ≤ a2) := by
  obtain ⟨v1, v2, v3, rfl, h1, h2, h3⟩ := h
  obtain ⟨a1, b1, o1, k1⟩ := Ow.own h1
  obtain ⟨a2, b2, o2, k2⟩ := Ow.own h2
  obtain ⟨a3, b3, o3, k3⟩ := Ow.own h3
  have ne : ∀ {a b : Nat} {e e' : TypeId} {c c' : Array Value}, w.heap[a]? = some (.cells c e (0, 0)) → w.heap[b]? = some (.cells c' e' (0, 0)) → e ≠ e' → a ≠ b := fun p q hne e1 => by
    subst e1
    rw [p] at q
    simp only [Option.some.injEq, Obj.cells.injEq] at q
    exact hne q.2.1
  refine ⟨v1, v2, v3, a1, b1, a2, b2, a3, b3, rfl, o1, o2, o3, k1.imp id (fun k => ⟨k.1, k.2.2.1⟩), k2.imp id (fun k => ⟨k.1, k.2.2.1⟩), k3.imp id (fun k => ⟨k.1, k.2.2.1⟩), ?_, ?_, ?_⟩
  · rcases k1 with rfl | ⟨_, p1, _, _, q1⟩
    · exact .inl (Nat.zero_le _)
    · rcases k2 with rfl | ⟨_, p2, _, _, q2⟩
      · exact .inr (Nat.zero_le _)
      · have := ne q1 q2 (by decide); omega
  · rcases k1 with rfl | ⟨_, p1, _, _, q1⟩
    · exact .inl (Nat.zero_le _)
    · rcases k3 with rfl | ⟨_, p2, _, _, q2⟩
      · exact .inr (Nat.zero_le _)
      · have := ne q1 q2 (by decide); omega
  · rcases k2 with rfl | ⟨_, p1, _, _, q1⟩
    · exact .inl (Nat.zero_le _)
    · rcases k3 with rfl | ⟨_, p2, _, _, q2⟩
      · exact .inr (Nat.zero_le _)
      · have := ne q1 q2 (by decide); omega

set_option maxRecDepth 100000 in
set_option maxHeartbeats 2000000 in
theorem markState_any (w : World) (lo hi : Nat) (va : Value) (m : Int) (s : StateD) (ha : OwState lo hi w va s) (hhi : hi ≤ w.heap.size) (hm : 0 ≤ m) (hn : m + (cntState s : Int) ≤ 9223372036854775000) :
    Calls Try.prog 28 #[va, .int .i64 m] w fun e w' => ∃ y, e = .returned (.int .i64 (m + (cntState s : Int))) ∧ MkState m s y ∧ OwState lo hi w' va y ∧ Chg lo hi w w' := by
  obtain ⟨v1, v2, v3, a1, b1, a2, b2, a3, b3, rfl, o1, o2, o3, k1, k2, k3, d12, d13, d23⟩ := ha.apart
  obtain ⟨r, xs, bs, ys⟩ := s
  unfold cntState at *
  simp only at *
  clear ha
  have hb : Below w.heap.size w (w.alloc (.cells #[.int .i64 r, v1, v2, v3] 41)) := (Below.refl _ _).alloc (Nat.le_refl _) _
  have HC := Lib.hid ((Chg.refl lo hi w).alloc (.cells #[.int .i64 r, v1, v2, v3] 41))
  have X := Lib.hid (heap_alloc_new w (.cells #[.int .i64 r, v1, v2, v3] 41))
  have O1 := Lib.hid (o1.keep hb); have O2 := Lib.hid (o2.keep hb); have O3 := Lib.hid (o3.keep hb)
  have D := Lib.hid (And.intro d12 (And.intro d13 d23)); have K := Lib.hid (And.intro k1 (And.intro k2 k3))
  have HH := Lib.hid hhi
  have HS : Hid (m + ((cntIntS xs + cntBoolS bs + cntMessageS ys : Nat) : Int) = m + (cntIntS xs : Int) + (cntBoolS bs : Int) + (cntMessageS ys : Int)) := Lib.hid (by omega)
  rw [HS.out] at hn ⊢
  clear o1 o2 o3 d12 d13 d23 k1 k2 k3 hb hhi HS
  have hc1 : 0 ≤ (cntIntS xs : Int) := by omega
  have hc2 : 0 ≤ (cntBoolS bs : Int) := by omega
  have hc3 : 0 ≤ (cntMessageS ys : Int) := by omega
  have C1 := Lib.hid fun wx h => markIntS_any wx a1 b1 v1 m xs h hm (by omega)
  have C2 := Lib.hid fun wx h => markBoolS_any wx a2 b2 v2 (m + (cntIntS xs : Int)) bs h (by omega) (by omega)
  have C3 := Lib.hid fun wx h => markMessageS_any wx a3 b3 v3 (m + (cntIntS xs : Int) + (cntBoolS bs : Int)) ys h (by omega) (by omega)
  have MK := Lib.hid fun (y : StateD) (h1 : y.1 = r) (h2 : MkIntS m xs y.2.1) (h3 : MkBoolS (m + (cntIntS xs : Int)) bs y.2.2.1) (h4 : MkMessageS (m + (cntIntS xs : Int) + (cntBoolS bs : Int)) ys y.2.2.2) => (show MkState m (r, xs, bs, ys) y from ⟨h1, h2, h3, h4⟩)
  generalize (cntIntS xs : Int) = c1 at *
  generalize (cntBoolS bs : Int) = c2 at *
  generalize (cntMessageS ys : Int) = c3 at *
  go_enter Try.func28, Try.ntmps28
  go_wp2_with fail
  generalize (w.alloc (.cells #[.int .i64 r, v1, v2, v3] 41)) = w0 at *
  refine (C1.out _ O1.out).mono ?_
  rintro e w1 ⟨y1, rfl, hm1, ho1, hc⟩
  have M1 := Lib.hid hm1
  replace O1 := Lib.hid ho1
  replace O2 := Lib.hid (O2.out.chg hc D.out.1); replace O3 := Lib.hid (O3.out.chg hc D.out.2.1)
  replace HC := Lib.hid (HC.out.trans (hc.wide K.out.1))
  replace X := Lib.hid ((hc.block _ (box_lt X.out) (by have := K.out.1; have := HH.out; omega)).trans X.out)
  clear hc hm1 ho1 C1
  have x2 := box_cell X.out 2 _ rfl; have x3 := box_cell X.out 3 _ rfl
  go_wp2_with fail
  refine (C2.out _ O2.out).mono ?_
  rintro e w2 ⟨y2, rfl, hm1, ho1, hc⟩
  have M2 := Lib.hid hm1
  replace O2 := Lib.hid ho1
  replace O1 := Lib.hid (O1.out.chg hc (Or.symm D.out.1)); replace O3 := Lib.hid (O3.out.chg hc D.out.2.2)
  replace HC := Lib.hid (HC.out.trans (hc.wide K.out.2.1))
  replace X := Lib.hid ((hc.block _ (box_lt X.out) (by have := K.out.2.1; have := HH.out; omega)).trans X.out)
  clear hc hm1 ho1 C2 x2 x3
  have x3 := box_cell X.out 3 _ rfl
  go_wp2_with fail
  refine (C3.out _ O3.out).mono ?_
  rintro e w3 ⟨y3, rfl, hm1, ho1, hc⟩
  have M3 := Lib.hid hm1
  replace O3 := Lib.hid ho1
  replace O1 := Lib.hid (O1.out.chg hc (Or.symm D.out.2.1)); replace O2 := Lib.hid (O2.out.chg hc (Or.symm D.out.2.2))
  replace HC := Lib.hid (HC.out.trans (hc.wide K.out.2.2))
  clear hc hm1 ho1 C3 x3 X
  go_wp2_with fail
  go_ret
  exact ⟨(r, y1, y2, y3), rfl, MK.out _ rfl M1.out M2.out M3.out, ⟨_, _, _, rfl, O1.out.wide K.out.1, O2.out.wide K.out.2.1, O3.out.wide K.out.2.2⟩, HC.out⟩

set_option maxRecDepth 100000 in
set_option maxHeartbeats 2000000 in
theorem heldState_any (w : World) (va : Value) (m : Int) (s y : StateD) (hmk : MkState m s y) (ha : RdState w va y) (hm : 0 ≤ m) (hn : m + (cntState s : Int) ≤ 9223372036854775000) :
    Calls Try.prog 29 #[va, .int .i64 m] w fun e w' => e = .returned (.int .i64 (m + (cntState s : Int))) ∧ Below w.heap.size w w' := by
  obtain ⟨v1, v2, v3, rfl, p1, p2, p3⟩ := ha
  obtain ⟨r, xs, bs, ys⟩ := s
  obtain ⟨r', xs', bs', ys'⟩ := y
  obtain ⟨m0, m1, m2, m3⟩ := hmk
  unfold cntState at *
  simp only at *
  have hb : Below w.heap.size w (w.alloc (.cells #[.int .i64 r', v1, v2, v3] 41)) := (Below.refl _ _).alloc (Nat.le_refl _) _
  have HB := Lib.hid hb
  have X := Lib.hid (heap_alloc_new w (.cells #[.int .i64 r', v1, v2, v3] 41))
  have HS : Hid (m + ((cntIntS xs + cntBoolS bs + cntMessageS ys : Nat) : Int) = m + (cntIntS xs : Int) + (cntBoolS bs : Int) + (cntMessageS ys : Int)) := Lib.hid (by omega)
  rw [HS.out] at hn ⊢
  have hc1 : 0 ≤ (cntIntS xs : Int) := by omega
  have hc2 : 0 ≤ (cntBoolS bs : Int) := by omega
  have hc3 : 0 ≤ (cntMessageS ys : Int) := by omega
  have C1 := Lib.hid fun wx (hb : Below w.heap.size w wx) => heldIntS_any wx v1 m xs xs' m1 (p1.keep hb) hm (by omega)
  have C2 := Lib.hid fun wx (hb : Below w.heap.size w wx) => heldBoolS_any wx v2 (m + (cntIntS xs : Int)) bs bs' m2 (p2.keep hb) (by omega) (by omega)
  have C3 := Lib.hid fun wx (hb : Below w.heap.size w wx) => heldMessageS_any wx v3 (m + (cntIntS xs : Int) + (cntBoolS bs : Int)) ys ys' m3 (p3.keep hb) (by omega) (by omega)
  clear p1 p2 p3 m0 m1 m2 m3 HS hb
  generalize (cntIntS xs : Int) = c1 at *
  generalize (cntBoolS bs : Int) = c2 at *
  generalize (cntMessageS ys : Int) = c3 at *
  have t1 : decide (m + c1 < 0) = false := by simp; omega
  have t2 : decide (m + c1 + c2 < 0) = false := by simp; omega
  have t3 : decide (m + c1 + c2 + c3 < 0) = false := by simp; omega
  go_enter Try.func29, Try.ntmps29
  go_wp2_with fail
  generalize (w.alloc (.cells #[.int .i64 r', v1, v2, v3] 41)) = w0 at *
  refine (C1.out _ HB.out).mono ?_
  rintro e w1 ⟨rfl, hb⟩
  replace HB := Lib.hid (HB.out.tr hb); replace X := Lib.hid (box_keep X.out hb); clear hb
  have x2 := box_cell X.out 2 _ rfl; have x3 := box_cell X.out 3 _ rfl
  go_wp2_with fail
  refine (C2.out _ HB.out).mono ?_
  rintro e w1 ⟨rfl, hb⟩
  replace HB := Lib.hid (HB.out.tr hb); replace X := Lib.hid (box_keep X.out hb); clear hb x2 x3
  have x3 := box_cell X.out 3 _ rfl
  go_wp2_with fail
  refine (C3.out _ HB.out).mono ?_
  rintro e w1 ⟨rfl, hb⟩
  replace HB := Lib.hid (HB.out.tr hb); clear hb
  go_wp2_with fail
  go_ret
  exact ⟨rfl, HB.out⟩
end Go.Proofs.Ytgdggkhdollieaa
