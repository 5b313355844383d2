/-
  DERIVED. GIVEN WITH THE SEED: THE CARDS: each row of YtobhekkgbccoiaaDoorRows.lean that lists a variable, with what it lists TIED to the program's text (the seventh form; the later family's looks); each row that meets fmt, with fmt's text TOLD by the authors' own Lean function (tested against real Go, not proved from fmt's source: count such statements apart). THE CARD IS WHAT COUNTS. Prove the row's statement (the work); the ties are given (YtobhekkgbccoiaaDoorTie.lean); close each card by the builder's one call (the guide's Derived/Test/ToyasCard.lean, 'card_holds'). Laid BY PROGRAM, IN A SANDBOX (cutbox-door.mjs). By AI agents, Wed Nov 11 2026. No macro, syntax, notation, axiom, sorry.
-/
import Derived.Test.YtobhekkgbccoiaaDoorRows
import GoSem.ClaimSeven
namespace Go.Proofs.YtobhekkgbccoiaaDoor
namespace Rows

/-- THE TIED CARD OF 'laws.FnExactHopsFrom'. -/
def fnExactHopsFromCard : Claim7 := { stood := { row := fnExactHopsFromRow, standIns := [], harness := (true, "aa143172c02fffba66903e69babc7d609952a345a85777f0e899e2f1d2be2e16"), looks := true }, kinds := [], alts := [], laidByText := true, laidKinds := [.data], laidTests := true, laidLooks := .later }
def FnExactHopsFromCardSaid : Prop := Claim7.holds Tryd.pinned (.plain (OpenSpec.ofChange fnExactHopsFromSpec)) fnExactHopsFromCard

/-- THE TIED CARD OF 'laws.FnExactLeastInPart'. -/
def fnExactLeastInPartCard : Claim7 := { stood := { row := fnExactLeastInPartRow, standIns := [], harness := (true, "aa143172c02fffba66903e69babc7d609952a345a85777f0e899e2f1d2be2e16"), looks := true }, kinds := [], alts := [], laidByText := true, laidKinds := [.data], laidTests := true, laidLooks := .later }
def FnExactLeastInPartCardSaid : Prop := Claim7.holds Tryd.pinned (.plain (OpenSpec.ofChange fnExactLeastInPartSpec)) fnExactLeastInPartCard

/-- THE TIED CARD OF 'laws.FnLeastInPart'. -/
def fnLeastInPartCard : Claim7 := { stood := { row := fnLeastInPartRow, standIns := [], harness := (true, "aa143172c02fffba66903e69babc7d609952a345a85777f0e899e2f1d2be2e16"), looks := true }, kinds := [], alts := [], laidByText := true, laidKinds := [.data], laidTests := true, laidLooks := .later }
def FnLeastInPartCardSaid : Prop := Claim7.holds Tryd.pinned (.plain (OpenSpec.ofChange fnLeastInPartSpec)) fnLeastInPartCard

/-- THE TIED CARD OF 'laws.FnTrianglesAt'. -/
def fnTrianglesAtCard : Claim7 := { stood := { row := fnTrianglesAtRow, standIns := [], harness := (true, "aa143172c02fffba66903e69babc7d609952a345a85777f0e899e2f1d2be2e16"), looks := true }, kinds := [], alts := [], laidByText := true, laidKinds := [.data], laidTests := true, laidLooks := .later }
def FnTrianglesAtCardSaid : Prop := Claim7.holds Tryd.pinned (.plain (OpenSpec.ofChange fnTrianglesAtSpec)) fnTrianglesAtCard

/-- THE TIED CARD OF 'laws.FnExactCoresOf'. -/
def fnExactCoresOfCard : Claim7 := { stood := { row := fnExactCoresOfRow, standIns := [], harness := (true, "aa143172c02fffba66903e69babc7d609952a345a85777f0e899e2f1d2be2e16"), looks := true }, kinds := [], alts := [], laidByText := true, laidKinds := [.data], laidTests := true, laidLooks := .later }
def FnExactCoresOfCardSaid : Prop := Claim7.holds Tryd.pinned (.plain (OpenSpec.ofChange fnExactCoresOfSpec)) fnExactCoresOfCard

/-- THE TIED CARD OF 'laws.FnCoresOf'. -/
def fnCoresOfCard : Claim7 := { stood := { row := fnCoresOfRow, standIns := [], harness := (true, "aa143172c02fffba66903e69babc7d609952a345a85777f0e899e2f1d2be2e16"), looks := true }, kinds := [], alts := [], laidByText := true, laidKinds := [.data], laidTests := true, laidLooks := .later }
def FnCoresOfCardSaid : Prop := Claim7.holds Tryd.pinned (.plain (OpenSpec.ofChange fnCoresOfSpec)) fnCoresOfCard

/-- THE TIED CARD OF 'laws.FnEqualCosts'. -/
def fnEqualCostsCard : Claim7 := { stood := { row := fnEqualCostsRow, standIns := [], harness := (true, "aa143172c02fffba66903e69babc7d609952a345a85777f0e899e2f1d2be2e16"), looks := true }, kinds := [], alts := [], laidByText := true, laidKinds := [.data], laidTests := true, laidLooks := .later }
def FnEqualCostsCardSaid : Prop := Claim7.holds Tryd.pinned (.plain (OpenSpec.ofChange fnEqualCostsSpec)) fnEqualCostsCard

/-- THE SECOND FORM's CARD OF 'laws.FnExactHopsFrom'. -/
def fnExactHopsFromUptoCard : Claim7 := { stood := { row := fnExactHopsFromUptoRow, standIns := [], harness := (true, "aa143172c02fffba66903e69babc7d609952a345a85777f0e899e2f1d2be2e16"), looks := true }, kinds := [], alts := [], laidByText := true, laidKinds := [.data], laidTests := true, laidLooks := .later }
def FnExactHopsFromUptoCardSaid : Prop := Claim7.holds Tryd.pinned (.plain (OpenSpec.upto fnExactHopsFromSpec)) fnExactHopsFromUptoCard

/-- THE SECOND FORM's CARD OF 'laws.FnExactLeastInPart'. -/
def fnExactLeastInPartUptoCard : Claim7 := { stood := { row := fnExactLeastInPartUptoRow, standIns := [], harness := (true, "aa143172c02fffba66903e69babc7d609952a345a85777f0e899e2f1d2be2e16"), looks := true }, kinds := [], alts := [], laidByText := true, laidKinds := [.data], laidTests := true, laidLooks := .later }
def FnExactLeastInPartUptoCardSaid : Prop := Claim7.holds Tryd.pinned (.plain (OpenSpec.upto fnExactLeastInPartSpec)) fnExactLeastInPartUptoCard

/-- THE SECOND FORM's CARD OF 'laws.FnLeastInPart'. -/
def fnLeastInPartUptoCard : Claim7 := { stood := { row := fnLeastInPartUptoRow, standIns := [], harness := (true, "aa143172c02fffba66903e69babc7d609952a345a85777f0e899e2f1d2be2e16"), looks := true }, kinds := [], alts := [], laidByText := true, laidKinds := [.data], laidTests := true, laidLooks := .later }
def FnLeastInPartUptoCardSaid : Prop := Claim7.holds Tryd.pinned (.plain (OpenSpec.upto fnLeastInPartSpec)) fnLeastInPartUptoCard

/-- THE SECOND FORM's CARD OF 'laws.FnTrianglesAt'. -/
def fnTrianglesAtUptoCard : Claim7 := { stood := { row := fnTrianglesAtUptoRow, standIns := [], harness := (true, "aa143172c02fffba66903e69babc7d609952a345a85777f0e899e2f1d2be2e16"), looks := true }, kinds := [], alts := [], laidByText := true, laidKinds := [.data], laidTests := true, laidLooks := .later }
def FnTrianglesAtUptoCardSaid : Prop := Claim7.holds Tryd.pinned (.plain (OpenSpec.upto fnTrianglesAtSpec)) fnTrianglesAtUptoCard

/-- THE SECOND FORM's CARD OF 'laws.FnExactCoresOf'. -/
def fnExactCoresOfUptoCard : Claim7 := { stood := { row := fnExactCoresOfUptoRow, standIns := [], harness := (true, "aa143172c02fffba66903e69babc7d609952a345a85777f0e899e2f1d2be2e16"), looks := true }, kinds := [], alts := [], laidByText := true, laidKinds := [.data], laidTests := true, laidLooks := .later }
def FnExactCoresOfUptoCardSaid : Prop := Claim7.holds Tryd.pinned (.plain (OpenSpec.upto fnExactCoresOfSpec)) fnExactCoresOfUptoCard

/-- THE SECOND FORM's CARD OF 'laws.FnCoresOf'. -/
def fnCoresOfUptoCard : Claim7 := { stood := { row := fnCoresOfUptoRow, standIns := [], harness := (true, "aa143172c02fffba66903e69babc7d609952a345a85777f0e899e2f1d2be2e16"), looks := true }, kinds := [], alts := [], laidByText := true, laidKinds := [.data], laidTests := true, laidLooks := .later }
def FnCoresOfUptoCardSaid : Prop := Claim7.holds Tryd.pinned (.plain (OpenSpec.upto fnCoresOfSpec)) fnCoresOfUptoCard

/-- THE SECOND FORM's CARD OF 'laws.FnEqualCosts'. -/
def fnEqualCostsUptoCard : Claim7 := { stood := { row := fnEqualCostsUptoRow, standIns := [], harness := (true, "aa143172c02fffba66903e69babc7d609952a345a85777f0e899e2f1d2be2e16"), looks := true }, kinds := [], alts := [], laidByText := true, laidKinds := [.data], laidTests := true, laidLooks := .later }
def FnEqualCostsUptoCardSaid : Prop := Claim7.holds Tryd.pinned (.plain (OpenSpec.upto fnEqualCostsSpec)) fnEqualCostsUptoCard
end Rows
end Go.Proofs.YtobhekkgbccoiaaDoor
