/-
  The record of an edge: the reference's function and the program's.
-/
import Derived.Test.YtoolmknnmmecfaaArgs2
import Derived.Test.YtoolmknnmmecfaaBytes
import Derived.Test.YtoolmknnmmecfaaLib2
namespace Go.Proofs.Ytoolmknnmmecfaa
open Go.RowKit

def edgeBody (a b c : Int) : List Int :=
  if (encode a).length = 0 ∨ (encode b).length = 0 ∨ (encode c).length = 0 then [] else encode a ++ encode b ++ encode c

theorem toEdge_any (a b c : Int) (w : World) :
    Calls Try.prog 54 #[.agg #[.int .i64 a, .int .i64 b, .int .i64 c]] w fun e w' => e = .returned (.agg #[.int .i64 a, .int .i64 b, .int .i64 c]) ∧ Below w.heap.size w w' := by
  go_enter Try.func54, Try.ntmps54
  go_wp2_with fail
  exact bodyPost_ret (v := .agg #[.int .i64 a, .int .i64 b, .int .i64 c]) (by simp [results, Try.results54, go_sem]) rfl ⟨rfl, by go_grown⟩

set_option maxRecDepth 100000 in
set_option maxHeartbeats 2000000 in
theorem specEdgeBody_any (w : World) (y0 y1 y2 : Int) : Calls Try.prog 49 #[.agg #[.int .i64 y0, .int .i64 y1, .int .i64 y2]] w (RetI w (edgeBody y0 y1 y2)) := by
  have E0 := Lib.hid fun wx => specEncodeNumber_any wx y0
  have E1 := Lib.hid fun wx => specEncodeNumber_any wx y1
  have E2 := Lib.hid fun wx => specEncodeNumber_any wx y2
  have l0 := encode_length y0; have l1 := encode_length y1; have l2 := encode_length y2
  obtain ⟨E, hE⟩ : ∃ E, edgeBody y0 y1 y2 = E := ⟨_, rfl⟩
  rw [hE]
  unfold edgeBody at hE
  generalize encode y0 = xa at *
  generalize encode y1 = xb at *
  generalize encode y2 = xc at *
  have HE := Lib.hid hE; clear hE
  have HX := Lib.hid (heap_alloc_new w (.cells #[.int .i64 y0, .int .i64 y1, .int .i64 y2] 38))
  have HB := Lib.hid ((Below.refl w.heap.size w).alloc (Nat.le_refl _) (.cells #[.int .i64 y0, .int .i64 y1, .int .i64 y2] 38))
  go_enter Try.func49, Try.ntmps49
  go_wp2_with fail
  generalize (w.alloc (.cells #[.int .i64 y0, .int .i64 y1, .int .i64 y2] 38)) = w0 at *
  refine (E0.out _).mono ?_
  rintro e w1 ⟨v0, rfl, ho, hb⟩
  obtain ⟨_, p0, c0, rfl, _, _, _⟩ := ho.rd
  have O0 := Lib.hid ho; have hz0 := HB.out.size
  replace HX := Lib.hid (box_keep HX.out hb); replace HB := Lib.hid (HB.out.tr hb); clear hb ho E0
  have k1 := box_cell HX.out 1 _ rfl
  go_wp2_with fail
  refine (E1.out _).mono ?_
  rintro e w2 ⟨v1, rfl, ho, hb⟩
  obtain ⟨_, p1, c1, rfl, _, _, _⟩ := ho.rd
  have O1 := Lib.hid ho; have hz1 := hb.size
  replace O0 := Lib.hid (O0.out.keep hb)
  replace HX := Lib.hid (box_keep HX.out hb); replace HB := Lib.hid (HB.out.tr hb); clear hb ho E1 k1
  have k2 := box_cell HX.out 2 _ rfl
  go_wp2_with fail
  refine (E2.out _).mono ?_
  rintro e w3 ⟨v2, rfl, ho, hb⟩
  obtain ⟨_, p2, c2, rfl, _, _, _⟩ := ho.rd
  have O2 := Lib.hid ho; have hz2 := hb.size
  replace O0 := Lib.hid (O0.out.keep hb); replace O1 := Lib.hid (O1.out.keep hb)
  replace HB := Lib.hid (HB.out.tr hb); clear hb ho E2 k2 HX
  generalize ha : xa.length = la at *
  generalize hb : xb.length = lb at *
  generalize hc : xc.length = lc at *
  have HA := Lib.hid ha; have HBL := Lib.hid hb; have HC := Lib.hid hc; clear ha hb hc
  have fin : ∀ (w9 : World), Below w.heap.size w w9 → (la = 0 ∨ lb = 0 ∨ lc = 0) → ∀ a, RetI w E (.returned (.slice a 0 0)) w9 := by
    intro w9 h9 h a
    have he := HE.out
    rw [if_pos h] at he
    rw [← he]
    exact ⟨_, rfl, Ow.nil _ _ _ _ _ _, h9⟩
  have FIN := Lib.hid fin; clear fin
  by_cases za : la = 0
  · subst za
    go_wp2_with fail
    go_ret
    exact FIN.out _ (HB.out.alloc HB.out.size _) (by simp) _
  · by_cases zb : lb = 0
    · subst zb
      have za' : ((la : Int) == 0) = false := by simp; omega
      go_wp2_with fail
      go_ret
      exact FIN.out _ (HB.out.alloc HB.out.size _) (by simp) _
    · by_cases zc : lc = 0
      · subst zc
        have za' : ((la : Int) == 0) = false := by simp; omega
        have zb' : ((lb : Int) == 0) = false := by simp; omega
        go_wp2_with fail
        go_ret
        exact FIN.out _ (HB.out.alloc HB.out.size _) (by simp) _
      · have za' : ((la : Int) == 0) = false := by simp; omega
        have zb' : ((lb : Int) == 0) = false := by simp; omega
        have zc' : ((lc : Int) == 0) = false := by simp; omega
        rcases O0.out.cases with ⟨h, _⟩ | ⟨g, cap, hv, hg0, hg1, hown⟩
        · exact absurd h za
        simp only [Value.slice.injEq] at hv
        obtain ⟨rfl, -, rfl⟩ := hv
        have HOW := Lib.hid hown; clear hown O0
        have hgs : g ≤ w3.heap.size := by omega
        go_wp2_with (first
          | (at_builtin; refine wpList_pushAllC rfl _ _ 43 3 rfl (.int .i64 0) 1 8 Try.underlying43 infoInt rfl (by decide) (by decide) g c0 la (ints xa) HOW.out rfl _ lb (ints xb) O1.out.rd rfl (ints_one xb) (by omega) (by omega) hgs ?_; intro v' w4 hown4 hc4 hne4; have HO4 := Lib.hid hown4; have HC4 := Lib.hid hc4; clear hown4 hc4 hne4; have hgs4 : g ≤ w4.heap.size := Nat.le_trans hgs HC4.out.size; have HR4 := Lib.hid ((O2.out.chg HC4.out (.inl (by omega))).rd))
          | (at_builtin; refine wpList_pushAllB rfl _ _ 43 3 rfl (.int .i64 0) 1 8 Try.underlying43 infoInt rfl (by decide) (by decide) g _ (la + lb) (ints xa ++ ints xb) HO4.out rfl _ lc (ints xc) HR4.out rfl (ints_one xc) (by omega) (by omega) hgs4 ?_; intro v'' w5 hown5 hbel5 hne5; have HO5 := Lib.hid hown5; have HB5 := Lib.hid hbel5; clear hown5 hbel5 hne5))
        go_ret
        have he := HE.out
        rw [if_neg (by omega)] at he
        rw [← he]
        refine ⟨_, rfl, ?_, (HC4.out.below HB.out (by omega)).trans (HB5.out.mono (by omega))⟩
        rw [ints_append, ints_append, List.length_append, List.length_append, HA.out, HBL.out, HC.out]
        exact (Ow.of_row HO5.out).mono (by omega) (Nat.le_refl _)
end Go.Proofs.Ytoolmknnmmecfaa
