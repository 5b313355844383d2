/-
  What is drawn for the law on ReadFrame: bytes and a place.
-/
import Derived.Test.YtdflpildopefaaaDrawG
import Derived.Test.YtdflpildopefaaaRel
namespace Go.Proofs.Ytdflpildopefaaa
open Go.RowKit
set_option linter.unusedVariables false

set_option maxRecDepth 100000 in
set_option maxHeartbeats 2000000 in
theorem DrawReadFrame_any (W : World) (va : Value) (bs : List Int) (hr : Rd W 1 va bs.length (bys bs)) (hg : ∀ x ∈ bs, 0 ≤ x ∧ x ≤ 255) :
    Calls Try.prog 35 #[va] W fun e w' => ∃ v xs p, e = .returned (.tuple #[v, .int .i64 p]) ∧ Rd w' 1 v xs.length (ints xs) ∧ xs.length ≤ 2400 ∧ In64 p ∧ Below W.heap.size W w' := by
  have HO := Lib.hid (open_any W va bs W hr hg (Below.refl _ _)); clear hr hg
  go_enter Try.func35, Try.ntmps35
  go_wp2_with fail
  refine HO.out.mono ?_
  rintro e w1 ⟨sv, bs', rfl, hd, hb1, hs1⟩
  have HD := Lib.hid hd
  clear hd HO
  go_wp2_with fail
  refine (l20Frames_any W sv bs' _ _ _ HD.out (by omega)).mono ?_
  rintro e w3 ⟨v, xs, rfl, ho, hl, -, hd, hg⟩
  have HR := Lib.hid (Rd.of_own ho)
  have HOW := Lib.hid ho
  replace HD := Lib.hid hd
  obtain ⟨a, ca, rfl, hca, hma⟩ := HR.out.form
  clear ho hd hg
  go_wp2_with fail
  refine wp_region_rel (fun x => { tmps := #[va, undef, x 2, x 3, .pointer (some ⟨W.heap.size, 0, none⟩), .slice a xs.length ca, va, .pointer (some ⟨W.heap.size, 0, none⟩), .pointer (some ⟨W.heap.size, 0, none⟩), .slice a xs.length ca, x 10, x 11, x 12, x 13, x 14, x 15, x 16, x 17, x 18, x 19, x 20, x 21, x 22], defers := [] })
    (fun k => if k = 2 then .slice none 0 0 else if k = 3 then .int .i64 0 else undef) (fun n w => Drw W sv bs' W.heap.size (400 + (n : Int)) w ∧ Chg W.heap.size (W.heap.size + 1) w3 w) (Chg W.heap.size (W.heap.size + 1))
    (Tl [cst (.slice a xs.length ca), cst (.pointer (some ⟨W.heap.size, 0, none⟩)), intP (fun c => 0 ≤ c ∧ c < 16), cst (.slice a xs.length ca), cst (.int .i64 xs.length),
      litI W.heap.size 4 WfIntS, litI W.heap.size 7 (fun cs => ∀ c ∈ cs, 0 ≤ c ∧ c < 4), cst (.pointer (some ⟨W.heap.size, 0, none⟩)), intP (fun c => 0 ≤ c ∧ c < 7),
      litA W.heap.size 7 (fun cs => ∀ c ∈ cs, 0 ≤ c ∧ c < 4), intP (fun c => 0 ≤ c ∧ c < 4), litA W.heap.size 4 WfIntS, intP In64, cst (.slice a xs.length ca), intP In64])
    (by kernel_rfl) (by kernel_rfl) (by kernel_rfl) (stab_Tl ?hst) (fun w => Chg.refl _ _ w) ⟨HD.out.mono (by omega) |>.keep (Below.refl _ _).drew, (Chg.refl _ _ _).drew⟩ ?hput ?hop ?hend
  case hst =>
    simp only [List.mem_cons, List.not_mem_nil, or_false, forall_eq_or_imp, forall_eq]
    refine ⟨?_, ?_, ?_, ?_, ?_, ?_, ?_, ?_, ?_, ?_, ?_, ?_, ?_, ?_, ?_⟩
    all_goals first | exact stab_cst _ _ | exact stab_intP _ _ | exact stab_litI _ _ _ | exact stab_litA _ _ _
  case hput =>
    refine ⟨?_, ?_, ?_, ?_, ?_, ?_, ?_, ?_, ?_, ?_, ?_, ?_, ?_, ?_, ?_, trivial⟩
    all_goals exact fun x v => rfl
  case hop =>
    refine ⟨?_, ?_, ?_, ?_, ?_, ?_, ?_, ?_, ?_, ?_, ?_, ?_, ?_, ?_, ?_, trivial⟩
    iterate 2
      · refine OpRel.plain rfl fun n x w K hn hG hdep hK => ?_
        clear hdep
        go_simp
        exact hK _ _ ⟨hG.1.mono (by omega), hG.2⟩ (Chg.refl _ _ _) rfl
    · refine OpRel.plain rfl fun n x w K hn hG hdep hK => ?_
      have h11 : x 11 = .pointer (some ⟨W.heap.size, 0, none⟩) := hdep 1 rfl _ rfl
      clear hdep
      simp only [h11] at hK
      go_simp
      refine (pick_any W sv bs' _ _ _ _ hG.1 (by simp at hn; omega) (by omega) (by omega)).mono ?_
      rintro e w' ⟨c, rfl, c0, c1, c2, hd, hg⟩
      exact hK _ _ ⟨by rw [Int.natCast_add, ← Int.add_assoc]; exact hd, hG.2.trans hg⟩ hg ⟨c, rfl, c0, c1 (by omega)⟩
    · refine OpRel.plain rfl fun n x w K hn hG hdep hK => ?_
      clear hdep
      go_simp
      exact hK _ _ ⟨hG.1.mono (by omega), hG.2⟩ (Chg.refl _ _ _) rfl
    · refine OpRel.plain rfl fun n x w K hn hG hdep hK => ?_
      have h13 : x 13 = .slice a xs.length ca := hdep 3 rfl _ rfl
      clear hdep
      simp only [h13] at hK
      go_simp
      exact hK _ _ ⟨hG.1.mono (by omega), hG.2⟩ (Chg.refl _ _ _) rfl
    · refine OpRel.plain rfl fun n x w K hn hG hdep hK => ?_
      obtain ⟨c, h12, c0, c1⟩ := hdep 2 rfl _ rfl
      have h14 : x 14 = .int .i64 (xs.length : Int) := hdep 4 rfl _ rfl
      clear hdep
      simp only [h12, h14] at hK
      go_simp
      have hlt := hG.1.lt
      exact hK _ _ ⟨(hG.1.keep ((Below.refl _ _).alloc (Nat.le_refl _) _)).mono (by omega), hG.2.alloc _⟩ ((Chg.refl _ _ _).alloc _) ⟨w.heap.size, [0, c, -1, (xs.length : Int)], rfl, heap_alloc_new _ _, hlt, rfl, by simp [WfIntS, In64]; omega⟩
    · refine OpRel.plain rfl fun n x w K hn hG hdep hK => ?_
      clear hdep
      go_simp
      have hlt := hG.1.lt
      exact hK _ _ ⟨(hG.1.keep ((Below.refl _ _).alloc (Nat.le_refl _) _)).mono (by omega), hG.2.alloc _⟩ ((Chg.refl _ _ _).alloc _) ⟨w.heap.size, [0, 0, 0, 1, 1, 2, 3], rfl, heap_alloc_new _ _, hlt, rfl, by simp⟩
    · refine OpRel.plain rfl fun n x w K hn hG hdep hK => ?_
      clear hdep
      go_simp
      exact hK _ _ ⟨hG.1.mono (by omega), hG.2⟩ (Chg.refl _ _ _) rfl
    · refine OpRel.plain rfl fun n x w K hn hG hdep hK => ?_
      have h17 : x 17 = .pointer (some ⟨W.heap.size, 0, none⟩) := hdep 7 rfl _ rfl
      clear hdep
      simp only [h17] at hK
      go_simp
      refine (pick_any W sv bs' _ _ _ _ hG.1 (by simp at hn; omega) (by omega) (by omega)).mono ?_
      rintro e w' ⟨c, rfl, c0, c1, c2, hd, hg⟩
      exact hK _ _ ⟨by rw [Int.natCast_add, ← Int.add_assoc]; exact hd, hG.2.trans hg⟩ hg ⟨c, rfl, c0, c1 (by omega)⟩
    iterate 2
      · refine OpRel.plain rfl fun n x w K hn hG hdep hK => ?_
        first
          | obtain ⟨b, cs, hsl, hb, hrb, hcl, hp⟩ := hdep 6 rfl _ rfl
            obtain ⟨c, hix, c0, c1⟩ := hdep 8 rfl _ rfl
          | obtain ⟨b, cs, hsl, hb, hrb, hcl, hp⟩ := hdep 5 rfl _ rfl
            obtain ⟨c, hix, c0, c1⟩ := hdep 10 rfl _ rfl
        clear hdep
        obtain ⟨j, rfl⟩ := Int.eq_ofNat_of_zero_le c0
        simp only [hsl, hix] at hK
        go_simp
        exact hK _ _ ⟨hG.1.mono (by omega), hG.2⟩ (Chg.refl _ _ _) ⟨b, j, cs, by omega, by simp, hb, hrb, hcl, hp⟩
      · refine OpRel.plain rfl fun n x w K hn hG hdep hK => ?_
        first
          | obtain ⟨b, j, cs, hj, had, hb, hrb, hcl, hp⟩ := hdep 9 rfl _ rfl
          | obtain ⟨b, j, cs, hj, had, hb, hrb, hcl, hp⟩ := hdep 11 rfl _ rfl
        clear hdep
        have hc := lit_cell hb (j := j) (by omega)
        have hz := hp (cs.getD j 0) (by simp [show j < cs.length by omega])
        generalize cs.getD j 0 = z at *
        simp only [had] at hK
        go_simp
        exact hK _ _ ⟨hG.1.mono (by omega), hG.2⟩ (Chg.refl _ _ _) ⟨z, rfl, hz⟩
    · refine OpRel.plain rfl fun n x w K hn hG hdep hK => ?_
      have h10 : x 10 = .slice a xs.length ca := hdep 0 rfl _ rfl
      clear hdep
      simp only [h10] at hK
      go_simp
      exact hK _ _ ⟨hG.1.mono (by omega), hG.2⟩ (Chg.refl _ _ _) rfl
    · refine OpRel.plain rfl fun n x w K hn hG hdep hK => ?_
      obtain ⟨c, h22, hc⟩ := hdep 12 rfl _ rfl
      clear hdep
      simp only [h22] at hK
      go_simp
      exact hK _ _ ⟨hG.1.mono (by omega), hG.2⟩ (Chg.refl _ _ _) ⟨c, rfl, hc⟩
  case hend =>
    intro n x w hG hh
    have h2 : x 2 = .slice a xs.length ca := hh 13 (by decide) _ rfl
    obtain ⟨y, h3, hy⟩ := hh 14 (by decide) _ rfl
    clear hh
    simp only [h2, h3]
    have HOW2 := Lib.hid (ownsRow_chg HOW.out hG.2 (by omega))
    have HD2 := Lib.hid hG.1.below
    clear hG h2 h3
    go_wp2_with fail
    go_ret2
    exact ⟨_, xs, y, rfl, Rd.of_own HOW2.out, hl, hy, HD2.out⟩
end Go.Proofs.Ytdflpildopefaaa
