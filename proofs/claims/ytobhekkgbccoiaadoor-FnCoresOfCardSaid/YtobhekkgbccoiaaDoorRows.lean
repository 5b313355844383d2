/-
  NARROWER THAN 'FOR EVERY INPUT', by the rows' own cells (each row's printed sentence says how): FnExactHopsFrom: laid · FnExactLeastInPart: laid · FnLeastInPart: laid · FnTrianglesAt: laid · FnExactCoresOf: laid · FnCoresOf: laid · FnEqualCosts: laid.
  DERIVED. THE GIVEN ROWS OF THIS SEAT. 7 by the template 'for every input the law returns true; each argument reads behind the call as it read before'; 0 by the template 'total and deterministic' (their statements: YtobhekkgbccoiaaDoorTotals.lean).
  GIVEN WITH THE SEED: the statements are not yours to turn. If you find one false, say at which input.
  Laid BY PROGRAM, IN A SANDBOX (cutbox-rows.mjs): the forced cells as the released guide's own fill.sh prints them over the translation 2f40ee1ee2608942… (all of the seat's roots in one cut). By AI agents, Wed Nov 11 2026. No macro, syntax, notation, axiom, sorry.
-/
import Derived.Test.YtobhekkgbccoiaaDoorChecked
import GoSem.Claim
import GoSem.ClaimJoined
import GoSem.ClaimMapViews
import Derived.JoinedTies
import Derived.KernelRfl
namespace Go.Proofs.YtobhekkgbccoiaaDoor
/- THE CELL 'sum', in the pinned program and in every row, IS THE sha256 OF THE DUMP (.gsa) THAT YtobhekkgbccoiaaDoorProg.lean LOADS. Nothing in Lean hashes anything: it is a label: what it is worth is what the hold of that sum in a sandbox is worth. -/
noncomputable def Tryd.pinned : Pinned := { name := "ytobhekkgbccoiaadoor", sum := "2f40ee1ee2608942888b48d4a66d75a2aa0c428bec4d100b6b2d89b527be82ae", checked := Tryd.checked }
namespace Rows
def none {H : Type} : Left H := { results := [], args := [] }

/- WHAT THE LISTED PACKAGE-LEVEL VARIABLES READ AS WHEN THE CALL BEGINS. Each datum BY PROGRAM (the guide's laid-datum.mjs) off the statement by which the dump's own 'gosem.cut.vars' lays the variable. In a bare row this is a premise. The card (YtobhekkgbccoiaaDoorCards.lean) ties it to the program's text. -/
def laid_math_bits_deBruijn32tab {H : Type} : DataW H := .agg [.lit (.int .u8 0), .lit (.int .u8 1), .lit (.int .u8 28), .lit (.int .u8 2), .lit (.int .u8 29), .lit (.int .u8 14), .lit (.int .u8 24), .lit (.int .u8 3), .lit (.int .u8 30), .lit (.int .u8 22), .lit (.int .u8 20), .lit (.int .u8 15), .lit (.int .u8 25), .lit (.int .u8 17), .lit (.int .u8 4), .lit (.int .u8 8), .lit (.int .u8 31), .lit (.int .u8 27), .lit (.int .u8 13), .lit (.int .u8 23), .lit (.int .u8 21), .lit (.int .u8 19), .lit (.int .u8 16), .lit (.int .u8 7), .lit (.int .u8 26), .lit (.int .u8 12), .lit (.int .u8 18), .lit (.int .u8 6), .lit (.int .u8 11), .lit (.int .u8 5), .lit (.int .u8 10), .lit (.int .u8 9)]

/-- 'laws.FnExactHopsFrom': WHATEVER THE INPUT: true; the input reads as it did. -/
def fnExactHopsFromSpec : ChangeSpec := { name := "fnExactHopsFrom", fn := fun _ => fun
  | [d1, d2] => { results := [.lit (.bool true)], args := [d1, d2] }
  | _ => none }
def fnExactHopsFromRow : OpenClaim := { program := "ytobhekkgbccoiaadoor", sum := "2f40ee1ee2608942888b48d4a66d75a2aa0c428bec4d100b6b2d89b527be82ae", func := "loop.example/graphcluster/laws.FnExactHopsFrom", spec := "fnExactHopsFrom", named := ["math/bits.deBruijn32tab"], apart := false, laid := [("math/bits.deBruijn32tab", laid_math_bits_deBruijn32tab)] }
def FnExactHopsFromSaid : Prop := fnExactHopsFromRow.holds Tryd.pinned (OpenSpec.ofChange fnExactHopsFromSpec)

/-- ITS FALSE NEIGHBOUR: 'it returns false'. Refute it at one input. -/
def fnExactHopsFromWrong : ChangeSpec := { name := "fnExactHopsFrom", fn := fun _ => fun
  | [d1, d2] => { results := [.lit (.bool false)], args := [d1, d2] }
  | _ => none }
def FnExactHopsFromWrongFalsely : Prop := fnExactHopsFromRow.holds Tryd.pinned (OpenSpec.ofChange fnExactHopsFromWrong)

/-- 'laws.FnExactLeastInPart': WHATEVER THE INPUT: true; the input reads as it did. -/
def fnExactLeastInPartSpec : ChangeSpec := { name := "fnExactLeastInPart", fn := fun _ => fun
  | [d] => { results := [.lit (.bool true)], args := [d] }
  | _ => none }
def fnExactLeastInPartRow : OpenClaim := { program := "ytobhekkgbccoiaadoor", sum := "2f40ee1ee2608942888b48d4a66d75a2aa0c428bec4d100b6b2d89b527be82ae", func := "loop.example/graphcluster/laws.FnExactLeastInPart", spec := "fnExactLeastInPart", named := ["math/bits.deBruijn32tab"], apart := false, laid := [("math/bits.deBruijn32tab", laid_math_bits_deBruijn32tab)] }
def FnExactLeastInPartSaid : Prop := fnExactLeastInPartRow.holds Tryd.pinned (OpenSpec.ofChange fnExactLeastInPartSpec)

/-- ITS FALSE NEIGHBOUR: 'it returns false'. Refute it at one input. -/
def fnExactLeastInPartWrong : ChangeSpec := { name := "fnExactLeastInPart", fn := fun _ => fun
  | [d] => { results := [.lit (.bool false)], args := [d] }
  | _ => none }
def FnExactLeastInPartWrongFalsely : Prop := fnExactLeastInPartRow.holds Tryd.pinned (OpenSpec.ofChange fnExactLeastInPartWrong)

/-- 'laws.FnLeastInPart': WHATEVER THE INPUT: true; the input reads as it did. -/
def fnLeastInPartSpec : ChangeSpec := { name := "fnLeastInPart", fn := fun _ => fun
  | [d] => { results := [.lit (.bool true)], args := [d] }
  | _ => none }
def fnLeastInPartRow : OpenClaim := { program := "ytobhekkgbccoiaadoor", sum := "2f40ee1ee2608942888b48d4a66d75a2aa0c428bec4d100b6b2d89b527be82ae", func := "loop.example/graphcluster/laws.FnLeastInPart", spec := "fnLeastInPart", named := ["math/bits.deBruijn32tab"], apart := false, laid := [("math/bits.deBruijn32tab", laid_math_bits_deBruijn32tab)] }
def FnLeastInPartSaid : Prop := fnLeastInPartRow.holds Tryd.pinned (OpenSpec.ofChange fnLeastInPartSpec)

/-- ITS FALSE NEIGHBOUR: 'it returns false'. Refute it at one input. -/
def fnLeastInPartWrong : ChangeSpec := { name := "fnLeastInPart", fn := fun _ => fun
  | [d] => { results := [.lit (.bool false)], args := [d] }
  | _ => none }
def FnLeastInPartWrongFalsely : Prop := fnLeastInPartRow.holds Tryd.pinned (OpenSpec.ofChange fnLeastInPartWrong)

/-- 'laws.FnTrianglesAt': WHATEVER THE INPUT: true; the input reads as it did. -/
def fnTrianglesAtSpec : ChangeSpec := { name := "fnTrianglesAt", fn := fun _ => fun
  | [d] => { results := [.lit (.bool true)], args := [d] }
  | _ => none }
def fnTrianglesAtRow : OpenClaim := { program := "ytobhekkgbccoiaadoor", sum := "2f40ee1ee2608942888b48d4a66d75a2aa0c428bec4d100b6b2d89b527be82ae", func := "loop.example/graphcluster/laws.FnTrianglesAt", spec := "fnTrianglesAt", named := ["math/bits.deBruijn32tab"], apart := false, laid := [("math/bits.deBruijn32tab", laid_math_bits_deBruijn32tab)] }
def FnTrianglesAtSaid : Prop := fnTrianglesAtRow.holds Tryd.pinned (OpenSpec.ofChange fnTrianglesAtSpec)

/-- ITS FALSE NEIGHBOUR: 'it returns false'. Refute it at one input. -/
def fnTrianglesAtWrong : ChangeSpec := { name := "fnTrianglesAt", fn := fun _ => fun
  | [d] => { results := [.lit (.bool false)], args := [d] }
  | _ => none }
def FnTrianglesAtWrongFalsely : Prop := fnTrianglesAtRow.holds Tryd.pinned (OpenSpec.ofChange fnTrianglesAtWrong)

/-- 'laws.FnExactCoresOf': WHATEVER THE INPUT: true; the input reads as it did. -/
def fnExactCoresOfSpec : ChangeSpec := { name := "fnExactCoresOf", fn := fun _ => fun
  | [d] => { results := [.lit (.bool true)], args := [d] }
  | _ => none }
def fnExactCoresOfRow : OpenClaim := { program := "ytobhekkgbccoiaadoor", sum := "2f40ee1ee2608942888b48d4a66d75a2aa0c428bec4d100b6b2d89b527be82ae", func := "loop.example/graphcluster/laws.FnExactCoresOf", spec := "fnExactCoresOf", named := ["math/bits.deBruijn32tab"], apart := false, laid := [("math/bits.deBruijn32tab", laid_math_bits_deBruijn32tab)] }
def FnExactCoresOfSaid : Prop := fnExactCoresOfRow.holds Tryd.pinned (OpenSpec.ofChange fnExactCoresOfSpec)

/-- ITS FALSE NEIGHBOUR: 'it returns false'. Refute it at one input. -/
def fnExactCoresOfWrong : ChangeSpec := { name := "fnExactCoresOf", fn := fun _ => fun
  | [d] => { results := [.lit (.bool false)], args := [d] }
  | _ => none }
def FnExactCoresOfWrongFalsely : Prop := fnExactCoresOfRow.holds Tryd.pinned (OpenSpec.ofChange fnExactCoresOfWrong)

/-- 'laws.FnCoresOf': WHATEVER THE INPUT: true; the input reads as it did. -/
def fnCoresOfSpec : ChangeSpec := { name := "fnCoresOf", fn := fun _ => fun
  | [d] => { results := [.lit (.bool true)], args := [d] }
  | _ => none }
def fnCoresOfRow : OpenClaim := { program := "ytobhekkgbccoiaadoor", sum := "2f40ee1ee2608942888b48d4a66d75a2aa0c428bec4d100b6b2d89b527be82ae", func := "loop.example/graphcluster/laws.FnCoresOf", spec := "fnCoresOf", named := ["math/bits.deBruijn32tab"], apart := false, laid := [("math/bits.deBruijn32tab", laid_math_bits_deBruijn32tab)] }
def FnCoresOfSaid : Prop := fnCoresOfRow.holds Tryd.pinned (OpenSpec.ofChange fnCoresOfSpec)

/-- ITS FALSE NEIGHBOUR: 'it returns false'. Refute it at one input. -/
def fnCoresOfWrong : ChangeSpec := { name := "fnCoresOf", fn := fun _ => fun
  | [d] => { results := [.lit (.bool false)], args := [d] }
  | _ => none }
def FnCoresOfWrongFalsely : Prop := fnCoresOfRow.holds Tryd.pinned (OpenSpec.ofChange fnCoresOfWrong)

/-- 'laws.FnEqualCosts': WHATEVER THE INPUT: true; the input reads as it did. -/
def fnEqualCostsSpec : ChangeSpec := { name := "fnEqualCosts", fn := fun _ => fun
  | [d] => { results := [.lit (.bool true)], args := [d] }
  | _ => none }
def fnEqualCostsRow : OpenClaim := { program := "ytobhekkgbccoiaadoor", sum := "2f40ee1ee2608942888b48d4a66d75a2aa0c428bec4d100b6b2d89b527be82ae", func := "loop.example/graphcluster/laws.FnEqualCosts", spec := "fnEqualCosts", unfollowed := true, recurses := true, named := ["math/bits.deBruijn32tab"], apart := false, laid := [("math/bits.deBruijn32tab", laid_math_bits_deBruijn32tab)] }
def FnEqualCostsSaid : Prop := fnEqualCostsRow.holds Tryd.pinned (OpenSpec.ofChange fnEqualCostsSpec)

/-- ITS FALSE NEIGHBOUR: 'it returns false'. Refute it at one input. -/
def fnEqualCostsWrong : ChangeSpec := { name := "fnEqualCosts", fn := fun _ => fun
  | [d] => { results := [.lit (.bool false)], args := [d] }
  | _ => none }
def FnEqualCostsWrongFalsely : Prop := fnEqualCostsRow.holds Tryd.pinned (OpenSpec.ofChange fnEqualCostsWrong)

/- THE SECOND FORM. 'bulk': how many values and letters a reading holds, each counted each time it is reached (what is shared counts as often as it is met; a slice's spare places count too). A statement '..UptoSaid' is the law's where the arguments, and the package variables that the reading takes, are together of bulk at most 1048576: NARROWER than '..Said'. Prove '..Said' where nothing that the law and all that it calls make is longer than what came in: it says more and counts as full. Else prove '..UptoSaid'. A law counts once. -/
mutual
def uptoBulk {H : Type} : DataW H → Nat
  | .lit (.string bytes) => bytes.length + 1
  | .lit _ => 1
  | .nil => 1
  | .ptr d => uptoBulk d + 1
  | .slice elems spare => uptoBulkAll elems + uptoBulkAll spare + 1
  | .agg parts => uptoBulkAll parts + 1
  | .iface _ d => uptoBulk d + 1
  | .map entries => uptoBulkEntries entries + 1
  | .held _ => 1
def uptoBulkAll {H : Type} : List (DataW H) → Nat
  | [] => 0
  | d :: r => uptoBulk d + uptoBulkAll r
def uptoBulkEntries {H : Type} : List (Lit × DataW H) → Nat
  | [] => 0
  | x :: r => uptoBulkEntry x + uptoBulkEntries r
def uptoBulkEntry {H : Type} : Lit × DataW H → Nat
  | (.string bytes, d) => bytes.length + uptoBulk d + 1
  | (_, d) => uptoBulk d + 1
 end
def uptoSmall : (H : Type) → List (DataW H) → Bool := fun _ ds => decide (uptoBulkAll ds ≤ 1048576)
def OpenSpec.upto (s : _root_.Go.ChangeSpec) : _root_.Go.OpenSpec := { _root_.Go.OpenSpec.ofChange s with cond := some uptoSmall }

/-- 'laws.FnExactHopsFrom', WHERE WHAT IT READS IS OF BULK AT MOST 1048576: true; the input reads as it did. -/
def fnExactHopsFromUptoRow : OpenClaim := { program := "ytobhekkgbccoiaadoor", sum := "2f40ee1ee2608942888b48d4a66d75a2aa0c428bec4d100b6b2d89b527be82ae", func := "loop.example/graphcluster/laws.FnExactHopsFrom", spec := "fnExactHopsFrom", named := ["math/bits.deBruijn32tab"], apart := false, laid := [("math/bits.deBruijn32tab", laid_math_bits_deBruijn32tab)], narrowed := true }
def FnExactHopsFromUptoSaid : Prop := fnExactHopsFromUptoRow.holds Tryd.pinned (OpenSpec.upto fnExactHopsFromSpec)

/-- 'laws.FnExactLeastInPart', WHERE WHAT IT READS IS OF BULK AT MOST 1048576: true; the input reads as it did. -/
def fnExactLeastInPartUptoRow : OpenClaim := { program := "ytobhekkgbccoiaadoor", sum := "2f40ee1ee2608942888b48d4a66d75a2aa0c428bec4d100b6b2d89b527be82ae", func := "loop.example/graphcluster/laws.FnExactLeastInPart", spec := "fnExactLeastInPart", named := ["math/bits.deBruijn32tab"], apart := false, laid := [("math/bits.deBruijn32tab", laid_math_bits_deBruijn32tab)], narrowed := true }
def FnExactLeastInPartUptoSaid : Prop := fnExactLeastInPartUptoRow.holds Tryd.pinned (OpenSpec.upto fnExactLeastInPartSpec)

/-- 'laws.FnLeastInPart', WHERE WHAT IT READS IS OF BULK AT MOST 1048576: true; the input reads as it did. -/
def fnLeastInPartUptoRow : OpenClaim := { program := "ytobhekkgbccoiaadoor", sum := "2f40ee1ee2608942888b48d4a66d75a2aa0c428bec4d100b6b2d89b527be82ae", func := "loop.example/graphcluster/laws.FnLeastInPart", spec := "fnLeastInPart", named := ["math/bits.deBruijn32tab"], apart := false, laid := [("math/bits.deBruijn32tab", laid_math_bits_deBruijn32tab)], narrowed := true }
def FnLeastInPartUptoSaid : Prop := fnLeastInPartUptoRow.holds Tryd.pinned (OpenSpec.upto fnLeastInPartSpec)

/-- 'laws.FnTrianglesAt', WHERE WHAT IT READS IS OF BULK AT MOST 1048576: true; the input reads as it did. -/
def fnTrianglesAtUptoRow : OpenClaim := { program := "ytobhekkgbccoiaadoor", sum := "2f40ee1ee2608942888b48d4a66d75a2aa0c428bec4d100b6b2d89b527be82ae", func := "loop.example/graphcluster/laws.FnTrianglesAt", spec := "fnTrianglesAt", named := ["math/bits.deBruijn32tab"], apart := false, laid := [("math/bits.deBruijn32tab", laid_math_bits_deBruijn32tab)], narrowed := true }
def FnTrianglesAtUptoSaid : Prop := fnTrianglesAtUptoRow.holds Tryd.pinned (OpenSpec.upto fnTrianglesAtSpec)

/-- 'laws.FnExactCoresOf', WHERE WHAT IT READS IS OF BULK AT MOST 1048576: true; the input reads as it did. -/
def fnExactCoresOfUptoRow : OpenClaim := { program := "ytobhekkgbccoiaadoor", sum := "2f40ee1ee2608942888b48d4a66d75a2aa0c428bec4d100b6b2d89b527be82ae", func := "loop.example/graphcluster/laws.FnExactCoresOf", spec := "fnExactCoresOf", named := ["math/bits.deBruijn32tab"], apart := false, laid := [("math/bits.deBruijn32tab", laid_math_bits_deBruijn32tab)], narrowed := true }
def FnExactCoresOfUptoSaid : Prop := fnExactCoresOfUptoRow.holds Tryd.pinned (OpenSpec.upto fnExactCoresOfSpec)

/-- 'laws.FnCoresOf', WHERE WHAT IT READS IS OF BULK AT MOST 1048576: true; the input reads as it did. -/
def fnCoresOfUptoRow : OpenClaim := { program := "ytobhekkgbccoiaadoor", sum := "2f40ee1ee2608942888b48d4a66d75a2aa0c428bec4d100b6b2d89b527be82ae", func := "loop.example/graphcluster/laws.FnCoresOf", spec := "fnCoresOf", named := ["math/bits.deBruijn32tab"], apart := false, laid := [("math/bits.deBruijn32tab", laid_math_bits_deBruijn32tab)], narrowed := true }
def FnCoresOfUptoSaid : Prop := fnCoresOfUptoRow.holds Tryd.pinned (OpenSpec.upto fnCoresOfSpec)

/-- 'laws.FnEqualCosts', WHERE WHAT IT READS IS OF BULK AT MOST 1048576: true; the input reads as it did. -/
def fnEqualCostsUptoRow : OpenClaim := { program := "ytobhekkgbccoiaadoor", sum := "2f40ee1ee2608942888b48d4a66d75a2aa0c428bec4d100b6b2d89b527be82ae", func := "loop.example/graphcluster/laws.FnEqualCosts", spec := "fnEqualCosts", unfollowed := true, recurses := true, named := ["math/bits.deBruijn32tab"], apart := false, laid := [("math/bits.deBruijn32tab", laid_math_bits_deBruijn32tab)], narrowed := true }
def FnEqualCostsUptoSaid : Prop := fnEqualCostsUptoRow.holds Tryd.pinned (OpenSpec.upto fnEqualCostsSpec)

end Rows
end Go.Proofs.YtobhekkgbccoiaaDoor
