/-
  DERIVED. GIVEN WITH THE SEED: THE CARDS: each row of YtgdggkhdollieaaDoorRows.lean that lists a variable, with what it lists TIED to the program's text (the seventh form; the later family's looks); each row that meets fmt, with fmt's text TOLD by the authors' own Lean function (tested against real Go, not proved from fmt's source: count such statements apart). THE CARD IS WHAT COUNTS. Prove the row's statement (the work); the ties are given (YtgdggkhdollieaaDoorTie.lean); close each card by the builder's one call (the guide's Derived/Test/ToyasCard.lean, 'card_holds'). Laid BY PROGRAM, IN A SANDBOX (cutbox-door.mjs). By AI agents, Wed Nov 11 2026. No macro, syntax, notation, axiom, sorry.
-/
import Derived.Test.YtgdggkhdollieaaDoorRows
import GoSem.ClaimSeven
namespace Go.Proofs.YtgdggkhdollieaaDoor
namespace Rows

/-- THE TIED CARD OF 'laws.FnEqualCosts'. -/
def fnEqualCostsCard : Claim7 := { stood := { row := fnEqualCostsRow, standIns := [], harness := (true, "5f4b6f795264f639d9f32d3a5e8b10e781ce80fb528d4b446c7ef981035a3e16"), looks := true }, kinds := [], alts := [], laidByText := true, laidKinds := [.data], laidTests := true, laidLooks := .later }
def FnEqualCostsCardSaid : Prop := Claim7.holds Tryd.pinned (.plain (OpenSpec.ofChange fnEqualCostsSpec)) fnEqualCostsCard

/-- THE SECOND FORM's CARD OF 'laws.FnEqualCosts'. -/
def fnEqualCostsUptoCard : Claim7 := { stood := { row := fnEqualCostsUptoRow, standIns := [], harness := (true, "5f4b6f795264f639d9f32d3a5e8b10e781ce80fb528d4b446c7ef981035a3e16"), looks := true }, kinds := [], alts := [], laidByText := true, laidKinds := [.data], laidTests := true, laidLooks := .later }
def FnEqualCostsUptoCardSaid : Prop := Claim7.holds Tryd.pinned (.plain (OpenSpec.upto fnEqualCostsSpec)) fnEqualCostsUptoCard
end Rows
end Go.Proofs.YtgdggkhdollieaaDoor
