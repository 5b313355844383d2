/-
  What is drawn for the laws on frames: a record; bytes and a place; bytes.
-/
import Derived.Test.YtdflpildopefaaaDrawF
namespace Go.Proofs.Ytdflpildopefaaa
open Go.RowKit
set_option linter.unusedVariables false


set_option maxRecDepth 100000 in
theorem DrawScanFrames_any (W : World) (va : Value) (bs : List Int) (hr : Rd W 1 va bs.length (bys bs)) (hg : ∀ x ∈ bs, 0 ≤ x ∧ x ≤ 255) :
    Calls Try.prog 52 #[va] W fun e w' => ∃ v xs, e = .returned v ∧ Rd w' 1 v xs.length (ints xs) ∧ xs.length ≤ 2400 ∧ Below W.heap.size W w' := by
  have HO := Lib.hid (open_any W va bs W hr hg (Below.refl _ _)); clear hr hg
  go_enter Try.func52, Try.ntmps52
  go_wp2_with fail
  refine HO.out.mono ?_
  rintro e w1 ⟨sv, bs', rfl, hd, hb1, hs1⟩
  have HD := Lib.hid hd
  clear hd HO
  go_wp2_with fail
  refine (l20Frames_any W sv bs' _ _ _ HD.out (by omega)).mono ?_
  rintro e w3 ⟨v, xs, rfl, ho, hl, -, hd, hg⟩
  have hR := Rd.of_own ho
  have hb := hd.below
  clear ho hd hg
  go_wp2_with fail
  go_ret
  exact ⟨_, xs, rfl, hR, hl, hb⟩
end Go.Proofs.Ytdflpildopefaaa
