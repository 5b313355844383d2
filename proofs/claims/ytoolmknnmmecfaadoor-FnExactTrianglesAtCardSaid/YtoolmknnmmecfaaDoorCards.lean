/-
  DERIVED. GIVEN WITH THE SEED: THE CARDS: each row of YtoolmknnmmecfaaDoorRows.lean that lists a variable, with what it lists TIED to the program's text (the seventh form; the later family's looks); each row that meets fmt, with fmt's text TOLD by the authors' own Lean function (tested against real Go, not proved from fmt's source: count such statements apart). THE CARD IS WHAT COUNTS. Prove the row's statement (the work); the ties are given (YtoolmknnmmecfaaDoorTie.lean); close each card by the builder's one call (the guide's Derived/Test/ToyasCard.lean, 'card_holds'). Laid BY PROGRAM, IN A SANDBOX (cutbox-door.mjs). By AI agents, Wed Nov 11 2026. No macro, syntax, notation, axiom, sorry.
-/
import Derived.Test.YtoolmknnmmecfaaDoorRows
import GoSem.ClaimSeven
namespace Go.Proofs.YtoolmknnmmecfaaDoor
namespace Rows

/-- THE TIED CARD OF 'laws.FnExactNextOf'. -/
def fnExactNextOfCard : Claim7 := { stood := { row := fnExactNextOfRow, standIns := [], harness := (true, "39148f9e43077308cb6e81b34a7341aecb3c3a3944f7f2b389d533810053764d"), looks := false }, kinds := [], alts := [], laidByText := true, laidKinds := [.data], laidTests := true, laidLooks := .later }
def FnExactNextOfCardSaid : Prop := Claim7.holds Tryd.pinned (.plain (OpenSpec.ofChange fnExactNextOfSpec)) fnExactNextOfCard

/-- THE TIED CARD OF 'laws.FnExactNearOf'. -/
def fnExactNearOfCard : Claim7 := { stood := { row := fnExactNearOfRow, standIns := [], harness := (true, "39148f9e43077308cb6e81b34a7341aecb3c3a3944f7f2b389d533810053764d"), looks := false }, kinds := [], alts := [], laidByText := true, laidKinds := [.data], laidTests := true, laidLooks := .later }
def FnExactNearOfCardSaid : Prop := Claim7.holds Tryd.pinned (.plain (OpenSpec.ofChange fnExactNearOfSpec)) fnExactNearOfCard

/-- THE TIED CARD OF 'laws.FnNextOf'. -/
def fnNextOfCard : Claim7 := { stood := { row := fnNextOfRow, standIns := [], harness := (true, "39148f9e43077308cb6e81b34a7341aecb3c3a3944f7f2b389d533810053764d"), looks := false }, kinds := [], alts := [], laidByText := true, laidKinds := [.data], laidTests := true, laidLooks := .later }
def FnNextOfCardSaid : Prop := Claim7.holds Tryd.pinned (.plain (OpenSpec.ofChange fnNextOfSpec)) fnNextOfCard

/-- THE TIED CARD OF 'laws.FnExactHopsFrom'. -/
def fnExactHopsFromCard : Claim7 := { stood := { row := fnExactHopsFromRow, standIns := [], harness := (true, "39148f9e43077308cb6e81b34a7341aecb3c3a3944f7f2b389d533810053764d"), looks := false }, kinds := [], alts := [], laidByText := true, laidKinds := [.data], laidTests := true, laidLooks := .later }
def FnExactHopsFromCardSaid : Prop := Claim7.holds Tryd.pinned (.plain (OpenSpec.ofChange fnExactHopsFromSpec)) fnExactHopsFromCard

/-- THE TIED CARD OF 'laws.FnDegreesOf'. -/
def fnDegreesOfCard : Claim7 := { stood := { row := fnDegreesOfRow, standIns := [], harness := (true, "39148f9e43077308cb6e81b34a7341aecb3c3a3944f7f2b389d533810053764d"), looks := false }, kinds := [], alts := [], laidByText := true, laidKinds := [.data], laidTests := true, laidLooks := .later }
def FnDegreesOfCardSaid : Prop := Claim7.holds Tryd.pinned (.plain (OpenSpec.ofChange fnDegreesOfSpec)) fnDegreesOfCard

/-- THE TIED CARD OF 'laws.FnExactLeastInPart'. -/
def fnExactLeastInPartCard : Claim7 := { stood := { row := fnExactLeastInPartRow, standIns := [], harness := (true, "39148f9e43077308cb6e81b34a7341aecb3c3a3944f7f2b389d533810053764d"), looks := false }, kinds := [], alts := [], laidByText := true, laidKinds := [.data], laidTests := true, laidLooks := .later }
def FnExactLeastInPartCardSaid : Prop := Claim7.holds Tryd.pinned (.plain (OpenSpec.ofChange fnExactLeastInPartSpec)) fnExactLeastInPartCard

/-- THE TIED CARD OF 'laws.FnExactTrianglesAt'. -/
def fnExactTrianglesAtCard : Claim7 := { stood := { row := fnExactTrianglesAtRow, standIns := [], harness := (true, "39148f9e43077308cb6e81b34a7341aecb3c3a3944f7f2b389d533810053764d"), looks := false }, kinds := [], alts := [], laidByText := true, laidKinds := [.data], laidTests := true, laidLooks := .later }
def FnExactTrianglesAtCardSaid : Prop := Claim7.holds Tryd.pinned (.plain (OpenSpec.ofChange fnExactTrianglesAtSpec)) fnExactTrianglesAtCard

/-- THE TIED CARD OF 'laws.FnLeastInPart'. -/
def fnLeastInPartCard : Claim7 := { stood := { row := fnLeastInPartRow, standIns := [], harness := (true, "39148f9e43077308cb6e81b34a7341aecb3c3a3944f7f2b389d533810053764d"), looks := false }, kinds := [], alts := [], laidByText := true, laidKinds := [.data], laidTests := true, laidLooks := .later }
def FnLeastInPartCardSaid : Prop := Claim7.holds Tryd.pinned (.plain (OpenSpec.ofChange fnLeastInPartSpec)) fnLeastInPartCard

/-- THE TIED CARD OF 'laws.FnTrianglesAt'. -/
def fnTrianglesAtCard : Claim7 := { stood := { row := fnTrianglesAtRow, standIns := [], harness := (true, "39148f9e43077308cb6e81b34a7341aecb3c3a3944f7f2b389d533810053764d"), looks := false }, kinds := [], alts := [], laidByText := true, laidKinds := [.data], laidTests := true, laidLooks := .later }
def FnTrianglesAtCardSaid : Prop := Claim7.holds Tryd.pinned (.plain (OpenSpec.ofChange fnTrianglesAtSpec)) fnTrianglesAtCard

/-- THE TIED CARD OF 'laws.FnExactCoresOf'. -/
def fnExactCoresOfCard : Claim7 := { stood := { row := fnExactCoresOfRow, standIns := [], harness := (true, "39148f9e43077308cb6e81b34a7341aecb3c3a3944f7f2b389d533810053764d"), looks := false }, kinds := [], alts := [], laidByText := true, laidKinds := [.data], laidTests := true, laidLooks := .later }
def FnExactCoresOfCardSaid : Prop := Claim7.holds Tryd.pinned (.plain (OpenSpec.ofChange fnExactCoresOfSpec)) fnExactCoresOfCard

/-- THE TIED CARD OF 'laws.FnCoresOf'. -/
def fnCoresOfCard : Claim7 := { stood := { row := fnCoresOfRow, standIns := [], harness := (true, "39148f9e43077308cb6e81b34a7341aecb3c3a3944f7f2b389d533810053764d"), looks := false }, kinds := [], alts := [], laidByText := true, laidKinds := [.data], laidTests := true, laidLooks := .later }
def FnCoresOfCardSaid : Prop := Claim7.holds Tryd.pinned (.plain (OpenSpec.ofChange fnCoresOfSpec)) fnCoresOfCard

/-- THE SECOND FORM's CARD OF 'laws.FnExactNextOf'. -/
def fnExactNextOfUptoCard : Claim7 := { stood := { row := fnExactNextOfUptoRow, standIns := [], harness := (true, "39148f9e43077308cb6e81b34a7341aecb3c3a3944f7f2b389d533810053764d"), looks := false }, kinds := [], alts := [], laidByText := true, laidKinds := [.data], laidTests := true, laidLooks := .later }
def FnExactNextOfUptoCardSaid : Prop := Claim7.holds Tryd.pinned (.plain (OpenSpec.upto fnExactNextOfSpec)) fnExactNextOfUptoCard

/-- THE SECOND FORM's CARD OF 'laws.FnExactNearOf'. -/
def fnExactNearOfUptoCard : Claim7 := { stood := { row := fnExactNearOfUptoRow, standIns := [], harness := (true, "39148f9e43077308cb6e81b34a7341aecb3c3a3944f7f2b389d533810053764d"), looks := false }, kinds := [], alts := [], laidByText := true, laidKinds := [.data], laidTests := true, laidLooks := .later }
def FnExactNearOfUptoCardSaid : Prop := Claim7.holds Tryd.pinned (.plain (OpenSpec.upto fnExactNearOfSpec)) fnExactNearOfUptoCard

/-- THE SECOND FORM's CARD OF 'laws.FnNextOf'. -/
def fnNextOfUptoCard : Claim7 := { stood := { row := fnNextOfUptoRow, standIns := [], harness := (true, "39148f9e43077308cb6e81b34a7341aecb3c3a3944f7f2b389d533810053764d"), looks := false }, kinds := [], alts := [], laidByText := true, laidKinds := [.data], laidTests := true, laidLooks := .later }
def FnNextOfUptoCardSaid : Prop := Claim7.holds Tryd.pinned (.plain (OpenSpec.upto fnNextOfSpec)) fnNextOfUptoCard

/-- THE SECOND FORM's CARD OF 'laws.FnExactHopsFrom'. -/
def fnExactHopsFromUptoCard : Claim7 := { stood := { row := fnExactHopsFromUptoRow, standIns := [], harness := (true, "39148f9e43077308cb6e81b34a7341aecb3c3a3944f7f2b389d533810053764d"), looks := false }, kinds := [], alts := [], laidByText := true, laidKinds := [.data], laidTests := true, laidLooks := .later }
def FnExactHopsFromUptoCardSaid : Prop := Claim7.holds Tryd.pinned (.plain (OpenSpec.upto fnExactHopsFromSpec)) fnExactHopsFromUptoCard

/-- THE SECOND FORM's CARD OF 'laws.FnDegreesOf'. -/
def fnDegreesOfUptoCard : Claim7 := { stood := { row := fnDegreesOfUptoRow, standIns := [], harness := (true, "39148f9e43077308cb6e81b34a7341aecb3c3a3944f7f2b389d533810053764d"), looks := false }, kinds := [], alts := [], laidByText := true, laidKinds := [.data], laidTests := true, laidLooks := .later }
def FnDegreesOfUptoCardSaid : Prop := Claim7.holds Tryd.pinned (.plain (OpenSpec.upto fnDegreesOfSpec)) fnDegreesOfUptoCard

/-- THE SECOND FORM's CARD OF 'laws.FnExactLeastInPart'. -/
def fnExactLeastInPartUptoCard : Claim7 := { stood := { row := fnExactLeastInPartUptoRow, standIns := [], harness := (true, "39148f9e43077308cb6e81b34a7341aecb3c3a3944f7f2b389d533810053764d"), looks := false }, kinds := [], alts := [], laidByText := true, laidKinds := [.data], laidTests := true, laidLooks := .later }
def FnExactLeastInPartUptoCardSaid : Prop := Claim7.holds Tryd.pinned (.plain (OpenSpec.upto fnExactLeastInPartSpec)) fnExactLeastInPartUptoCard

/-- THE SECOND FORM's CARD OF 'laws.FnExactTrianglesAt'. -/
def fnExactTrianglesAtUptoCard : Claim7 := { stood := { row := fnExactTrianglesAtUptoRow, standIns := [], harness := (true, "39148f9e43077308cb6e81b34a7341aecb3c3a3944f7f2b389d533810053764d"), looks := false }, kinds := [], alts := [], laidByText := true, laidKinds := [.data], laidTests := true, laidLooks := .later }
def FnExactTrianglesAtUptoCardSaid : Prop := Claim7.holds Tryd.pinned (.plain (OpenSpec.upto fnExactTrianglesAtSpec)) fnExactTrianglesAtUptoCard

/-- THE SECOND FORM's CARD OF 'laws.FnLeastInPart'. -/
def fnLeastInPartUptoCard : Claim7 := { stood := { row := fnLeastInPartUptoRow, standIns := [], harness := (true, "39148f9e43077308cb6e81b34a7341aecb3c3a3944f7f2b389d533810053764d"), looks := false }, kinds := [], alts := [], laidByText := true, laidKinds := [.data], laidTests := true, laidLooks := .later }
def FnLeastInPartUptoCardSaid : Prop := Claim7.holds Tryd.pinned (.plain (OpenSpec.upto fnLeastInPartSpec)) fnLeastInPartUptoCard

/-- THE SECOND FORM's CARD OF 'laws.FnTrianglesAt'. -/
def fnTrianglesAtUptoCard : Claim7 := { stood := { row := fnTrianglesAtUptoRow, standIns := [], harness := (true, "39148f9e43077308cb6e81b34a7341aecb3c3a3944f7f2b389d533810053764d"), looks := false }, kinds := [], alts := [], laidByText := true, laidKinds := [.data], laidTests := true, laidLooks := .later }
def FnTrianglesAtUptoCardSaid : Prop := Claim7.holds Tryd.pinned (.plain (OpenSpec.upto fnTrianglesAtSpec)) fnTrianglesAtUptoCard

/-- THE SECOND FORM's CARD OF 'laws.FnExactCoresOf'. -/
def fnExactCoresOfUptoCard : Claim7 := { stood := { row := fnExactCoresOfUptoRow, standIns := [], harness := (true, "39148f9e43077308cb6e81b34a7341aecb3c3a3944f7f2b389d533810053764d"), looks := false }, kinds := [], alts := [], laidByText := true, laidKinds := [.data], laidTests := true, laidLooks := .later }
def FnExactCoresOfUptoCardSaid : Prop := Claim7.holds Tryd.pinned (.plain (OpenSpec.upto fnExactCoresOfSpec)) fnExactCoresOfUptoCard

/-- THE SECOND FORM's CARD OF 'laws.FnCoresOf'. -/
def fnCoresOfUptoCard : Claim7 := { stood := { row := fnCoresOfUptoRow, standIns := [], harness := (true, "39148f9e43077308cb6e81b34a7341aecb3c3a3944f7f2b389d533810053764d"), looks := false }, kinds := [], alts := [], laidByText := true, laidKinds := [.data], laidTests := true, laidLooks := .later }
def FnCoresOfUptoCardSaid : Prop := Claim7.holds Tryd.pinned (.plain (OpenSpec.upto fnCoresOfSpec)) fnCoresOfUptoCard
end Rows
end Go.Proofs.YtoolmknnmmecfaaDoor
