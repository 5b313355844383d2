/-
  How an argument that came in reads: ints, lists of ints, of bytes, of bools, of triples of ints, of lists; structs of these.
-/
import Derived.Test.YtgdggkhdollieaaDoorRows
import Derived.Test.YtgdggkhdollieaaDoorLib
import Derived.WalkKit
import Derived.ProofKit
import Derived.OpenShut
import Derived.ShutString
import Derived.ChangeOld
import Derived.Below
import Derived.Lib.SmallJoins
import Derived.Deep.Slices
namespace Go.Proofs.YtgdggkhdollieaaDoor
open Go.ChangeShapes Go.WideShapes Go.ChangeAt Go.RowKit Go.Joins
set_option linter.unusedVariables false

theorem tryOwn : ownKnob Tryd.prog.godebug = none := by kernel_rfl
theorem tryLaidOut : laidOutB Tryd.prog = true := by kernel_rfl

theorem in64_of_wf {x : Int} (h : (Lit.int .i64 x).wf = true) : In64 x := by
  simp [Lit.wf, IntKind.min, IntKind.max, IntKind.signed, IntKind.bits] at h
  exact ⟨by omega, by omega⟩
theorem in8_of_wf {x : Int} (h : (Lit.int .u8 x).wf = true) : 0 ≤ x ∧ x ≤ 255 := by
  simp [Lit.wf, IntKind.min, IntKind.max, IntKind.signed, IntKind.bits] at h
  exact ⟨by omega, by omega⟩

section
variable {H : Type} {enc : TypeId × Value → H} {P : Program} {W : World}
/-- A slice of ints of one kind that came in. -/
theorem trod_kind {t e : TypeId} {k : IntKind} {n : Nat} {v : Value} {x : DataW H × List MemPlace} (ht : P.underlying t = some (.slice e)) (he : P.underlying e = some (.int k)) (hc : P.cellsOf e = 1)
    (h : DataW.trod enc P W 0 (fun _ => true) true n t [v] = some x) : ∃ xs : List Int, Rd W 1 v xs.length (xs.map (Value.int k)) ∧ ∀ x ∈ xs, (Lit.int k x).wf = true := by
  rcases open_ints ht he hc h with ⟨hcs, _⟩ | ⟨a, len, cap, zs, hcs, _, hl, hm, hz, _, hcell, hwz⟩
  · obtain rfl : v = .slice none 0 0 := by simpa using hcs
    exact ⟨[], Rd.nil _ _, by simp⟩
  · obtain rfl : v = .slice (some a) len cap := by simpa using hcs
    simp only [if_true] at hz
    have hlen : (zs.take len).length = len := by rw [List.length_take]; omega
    refine ⟨zs.take len, ?_, fun x hx => hwz x (List.mem_of_mem_take hx)⟩
    rw [hlen]
    refine ⟨by simp; omega, some a, cap, rfl, hl, hm, ?_⟩
    by_cases h0 : len = 0
    · exact .inl (by subst h0; simp)
    · right
      obtain ⟨b, off, spot⟩ := a
      have hc0 := hcell 0 (by omega)
      have hspot : spot = none := by simpa [Addr.add] using World.cell?_spot hc0
      subst hspot
      refine ⟨b, off, rfl, fun i hi => ?_⟩
      have hi' : i < len := by simp at hi; omega
      have h1 := hcell i (by omega)
      rw [show (⟨b, off, none⟩ : Addr).add i = ⟨b, off + i, none⟩ from by unfold Addr.add; split <;> simp_all] at h1
      rw [h1]
      simp [hi', show i < zs.length by omega]
theorem trod_ints {t e : TypeId} {n : Nat} {v : Value} {x : DataW H × List MemPlace} (ht : P.underlying t = some (.slice e)) (he : P.underlying e = some (.int .i64)) (hc : P.cellsOf e = 1)
    (h : DataW.trod enc P W 0 (fun _ => true) true n t [v] = some x) : ∃ xs : List Int, Rd W 1 v xs.length (ints xs) ∧ ∀ x ∈ xs, In64 x :=
  let ⟨xs, h1, h2⟩ := trod_kind ht he hc h
  ⟨xs, h1, fun x hx => in64_of_wf (h2 x hx)⟩
theorem trod_bytes {t e : TypeId} {n : Nat} {v : Value} {x : DataW H × List MemPlace} (ht : P.underlying t = some (.slice e)) (he : P.underlying e = some (.int .u8)) (hc : P.cellsOf e = 1)
    (h : DataW.trod enc P W 0 (fun _ => true) true n t [v] = some x) : ∃ xs : List Int, Rd W 1 v xs.length (bys xs) ∧ ∀ x ∈ xs, 0 ≤ x ∧ x ≤ 255 :=
  let ⟨xs, h1, h2⟩ := trod_kind ht he hc h
  ⟨xs, h1, fun x hx => in8_of_wf (h2 x hx)⟩
theorem trod_int1 {t : TypeId} {n : Nat} {v : Value} {x : DataW H × List MemPlace} (ht : P.underlying t = some (.int .i64))
    (h : DataW.trod enc P W 0 (fun _ => true) true n t [v] = some x) : ∃ a : Int, v = .int .i64 a ∧ In64 a := by
  obtain ⟨a, h1, _, hw⟩ := DataW.trod_int ht h
  exact ⟨a, by simpa using h1, in64_of_wf hw⟩
theorem trod_of {t : TypeId} {v : Value} {d : DataW H} {ps : List MemPlace} (hv : v.cells = #[v]) (h : DataW.Trod enc P W 0 (fun _ => true) true t v d ps) : ∃ n x, DataW.trod enc P W 0 (fun _ => true) true n t [v] = some x := by
  obtain ⟨n, hn⟩ := h
  exact ⟨n, _, by rw [hv] at hn; exact hn⟩
end
end Go.Proofs.YtgdggkhdollieaaDoor
