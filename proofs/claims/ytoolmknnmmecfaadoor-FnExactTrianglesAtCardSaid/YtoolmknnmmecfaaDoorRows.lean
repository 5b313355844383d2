/-
  NARROWER THAN 'FOR EVERY INPUT', by the rows' own cells (each row's printed sentence says how): FnExactNextOf: laid · FnExactNearOf: laid · FnNextOf: laid · FnExactHopsFrom: laid · FnDegreesOf: laid · FnExactLeastInPart: laid · FnExactTrianglesAt: laid · FnLeastInPart: laid · FnTrianglesAt: laid · FnExactCoresOf: laid · FnCoresOf: laid.
  DERIVED. THE GIVEN ROWS OF THIS SEAT. 11 by the template 'for every input the law returns true; each argument reads behind the call as it read before'; 0 by the template 'total and deterministic' (their statements: YtoolmknnmmecfaaDoorTotals.lean).
  GIVEN WITH THE SEED: the statements are not yours to turn. If you find one false, say at which input.
  Laid BY PROGRAM, IN A SANDBOX (cutbox-rows.mjs): the forced cells as the released guide's own fill.sh prints them over the translation 3d7b014c2ea23303… (all of the seat's roots in one cut). By AI agents, Wed Nov 11 2026. No macro, syntax, notation, axiom, sorry.
-/
import Derived.Test.YtoolmknnmmecfaaDoorChecked
import GoSem.Claim
import GoSem.ClaimJoined
import GoSem.ClaimMapViews
import Derived.JoinedTies
import Derived.KernelRfl
namespace Go.Proofs.YtoolmknnmmecfaaDoor
/- THE CELL 'sum', in the pinned program and in every row, IS THE sha256 OF THE DUMP (.gsa) THAT YtoolmknnmmecfaaDoorProg.lean LOADS. Nothing in Lean hashes anything: it is a label: what it is worth is what the hold of that sum in a sandbox is worth. -/
noncomputable def Tryd.pinned : Pinned := { name := "ytoolmknnmmecfaadoor", sum := "3d7b014c2ea233035d34d0c85ea8a0886fbe39c91b486a12b8b5093374cd0bfc", checked := Tryd.checked }
namespace Rows
def none {H : Type} : Left H := { results := [], args := [] }

/- WHAT THE LISTED PACKAGE-LEVEL VARIABLES READ AS WHEN THE CALL BEGINS. Each datum BY PROGRAM (the guide's laid-datum.mjs) off the statement by which the dump's own 'gosem.cut.vars' lays the variable. In a bare row this is a premise. The card (YtoolmknnmmecfaaDoorCards.lean) ties it to the program's text. -/
def laid_math_bits_deBruijn32tab {H : Type} : DataW H := .agg [.lit (.int .u8 0), .lit (.int .u8 1), .lit (.int .u8 28), .lit (.int .u8 2), .lit (.int .u8 29), .lit (.int .u8 14), .lit (.int .u8 24), .lit (.int .u8 3), .lit (.int .u8 30), .lit (.int .u8 22), .lit (.int .u8 20), .lit (.int .u8 15), .lit (.int .u8 25), .lit (.int .u8 17), .lit (.int .u8 4), .lit (.int .u8 8), .lit (.int .u8 31), .lit (.int .u8 27), .lit (.int .u8 13), .lit (.int .u8 23), .lit (.int .u8 21), .lit (.int .u8 19), .lit (.int .u8 16), .lit (.int .u8 7), .lit (.int .u8 26), .lit (.int .u8 12), .lit (.int .u8 18), .lit (.int .u8 6), .lit (.int .u8 11), .lit (.int .u8 5), .lit (.int .u8 10), .lit (.int .u8 9)]

/-- 'laws.FnExactNextOf': WHATEVER THE INPUT: true; the input reads as it did. -/
def fnExactNextOfSpec : ChangeSpec := { name := "fnExactNextOf", fn := fun _ => fun
  | [d1, d2] => { results := [.lit (.bool true)], args := [d1, d2] }
  | _ => none }
def fnExactNextOfRow : OpenClaim := { program := "ytoolmknnmmecfaadoor", sum := "3d7b014c2ea233035d34d0c85ea8a0886fbe39c91b486a12b8b5093374cd0bfc", func := "loop.example/graphcluster/laws.FnExactNextOf", spec := "fnExactNextOf", named := ["math/bits.deBruijn32tab"], apart := false, laid := [("math/bits.deBruijn32tab", laid_math_bits_deBruijn32tab)] }
def FnExactNextOfSaid : Prop := fnExactNextOfRow.holds Tryd.pinned (OpenSpec.ofChange fnExactNextOfSpec)

/-- ITS FALSE NEIGHBOUR: 'it returns false'. Refute it at one input. -/
def fnExactNextOfWrong : ChangeSpec := { name := "fnExactNextOf", fn := fun _ => fun
  | [d1, d2] => { results := [.lit (.bool false)], args := [d1, d2] }
  | _ => none }
def FnExactNextOfWrongFalsely : Prop := fnExactNextOfRow.holds Tryd.pinned (OpenSpec.ofChange fnExactNextOfWrong)

/-- 'laws.FnExactNearOf': WHATEVER THE INPUT: true; the input reads as it did. -/
def fnExactNearOfSpec : ChangeSpec := { name := "fnExactNearOf", fn := fun _ => fun
  | [d1, d2] => { results := [.lit (.bool true)], args := [d1, d2] }
  | _ => none }
def fnExactNearOfRow : OpenClaim := { program := "ytoolmknnmmecfaadoor", sum := "3d7b014c2ea233035d34d0c85ea8a0886fbe39c91b486a12b8b5093374cd0bfc", func := "loop.example/graphcluster/laws.FnExactNearOf", spec := "fnExactNearOf", named := ["math/bits.deBruijn32tab"], apart := false, laid := [("math/bits.deBruijn32tab", laid_math_bits_deBruijn32tab)] }
def FnExactNearOfSaid : Prop := fnExactNearOfRow.holds Tryd.pinned (OpenSpec.ofChange fnExactNearOfSpec)

/-- ITS FALSE NEIGHBOUR: 'it returns false'. Refute it at one input. -/
def fnExactNearOfWrong : ChangeSpec := { name := "fnExactNearOf", fn := fun _ => fun
  | [d1, d2] => { results := [.lit (.bool false)], args := [d1, d2] }
  | _ => none }
def FnExactNearOfWrongFalsely : Prop := fnExactNearOfRow.holds Tryd.pinned (OpenSpec.ofChange fnExactNearOfWrong)

/-- 'laws.FnNextOf': WHATEVER THE INPUT: true; the input reads as it did. -/
def fnNextOfSpec : ChangeSpec := { name := "fnNextOf", fn := fun _ => fun
  | [d] => { results := [.lit (.bool true)], args := [d] }
  | _ => none }
def fnNextOfRow : OpenClaim := { program := "ytoolmknnmmecfaadoor", sum := "3d7b014c2ea233035d34d0c85ea8a0886fbe39c91b486a12b8b5093374cd0bfc", func := "loop.example/graphcluster/laws.FnNextOf", spec := "fnNextOf", named := ["math/bits.deBruijn32tab"], apart := false, laid := [("math/bits.deBruijn32tab", laid_math_bits_deBruijn32tab)] }
def FnNextOfSaid : Prop := fnNextOfRow.holds Tryd.pinned (OpenSpec.ofChange fnNextOfSpec)

/-- ITS FALSE NEIGHBOUR: 'it returns false'. Refute it at one input. -/
def fnNextOfWrong : ChangeSpec := { name := "fnNextOf", fn := fun _ => fun
  | [d] => { results := [.lit (.bool false)], args := [d] }
  | _ => none }
def FnNextOfWrongFalsely : Prop := fnNextOfRow.holds Tryd.pinned (OpenSpec.ofChange fnNextOfWrong)

/-- 'laws.FnExactHopsFrom': WHATEVER THE INPUT: true; the input reads as it did. -/
def fnExactHopsFromSpec : ChangeSpec := { name := "fnExactHopsFrom", fn := fun _ => fun
  | [d1, d2] => { results := [.lit (.bool true)], args := [d1, d2] }
  | _ => none }
def fnExactHopsFromRow : OpenClaim := { program := "ytoolmknnmmecfaadoor", sum := "3d7b014c2ea233035d34d0c85ea8a0886fbe39c91b486a12b8b5093374cd0bfc", func := "loop.example/graphcluster/laws.FnExactHopsFrom", spec := "fnExactHopsFrom", named := ["math/bits.deBruijn32tab"], apart := false, laid := [("math/bits.deBruijn32tab", laid_math_bits_deBruijn32tab)] }
def FnExactHopsFromSaid : Prop := fnExactHopsFromRow.holds Tryd.pinned (OpenSpec.ofChange fnExactHopsFromSpec)

/-- ITS FALSE NEIGHBOUR: 'it returns false'. Refute it at one input. -/
def fnExactHopsFromWrong : ChangeSpec := { name := "fnExactHopsFrom", fn := fun _ => fun
  | [d1, d2] => { results := [.lit (.bool false)], args := [d1, d2] }
  | _ => none }
def FnExactHopsFromWrongFalsely : Prop := fnExactHopsFromRow.holds Tryd.pinned (OpenSpec.ofChange fnExactHopsFromWrong)

/-- 'laws.FnDegreesOf': WHATEVER THE INPUT: true; the input reads as it did. -/
def fnDegreesOfSpec : ChangeSpec := { name := "fnDegreesOf", fn := fun _ => fun
  | [d] => { results := [.lit (.bool true)], args := [d] }
  | _ => none }
def fnDegreesOfRow : OpenClaim := { program := "ytoolmknnmmecfaadoor", sum := "3d7b014c2ea233035d34d0c85ea8a0886fbe39c91b486a12b8b5093374cd0bfc", func := "loop.example/graphcluster/laws.FnDegreesOf", spec := "fnDegreesOf", named := ["math/bits.deBruijn32tab"], apart := false, laid := [("math/bits.deBruijn32tab", laid_math_bits_deBruijn32tab)] }
def FnDegreesOfSaid : Prop := fnDegreesOfRow.holds Tryd.pinned (OpenSpec.ofChange fnDegreesOfSpec)

/-- ITS FALSE NEIGHBOUR: 'it returns false'. Refute it at one input. -/
def fnDegreesOfWrong : ChangeSpec := { name := "fnDegreesOf", fn := fun _ => fun
  | [d] => { results := [.lit (.bool false)], args := [d] }
  | _ => none }
def FnDegreesOfWrongFalsely : Prop := fnDegreesOfRow.holds Tryd.pinned (OpenSpec.ofChange fnDegreesOfWrong)

/-- 'laws.FnExactLeastInPart': WHATEVER THE INPUT: true; the input reads as it did. -/
def fnExactLeastInPartSpec : ChangeSpec := { name := "fnExactLeastInPart", fn := fun _ => fun
  | [d] => { results := [.lit (.bool true)], args := [d] }
  | _ => none }
def fnExactLeastInPartRow : OpenClaim := { program := "ytoolmknnmmecfaadoor", sum := "3d7b014c2ea233035d34d0c85ea8a0886fbe39c91b486a12b8b5093374cd0bfc", func := "loop.example/graphcluster/laws.FnExactLeastInPart", spec := "fnExactLeastInPart", named := ["math/bits.deBruijn32tab"], apart := false, laid := [("math/bits.deBruijn32tab", laid_math_bits_deBruijn32tab)] }
def FnExactLeastInPartSaid : Prop := fnExactLeastInPartRow.holds Tryd.pinned (OpenSpec.ofChange fnExactLeastInPartSpec)

/-- ITS FALSE NEIGHBOUR: 'it returns false'. Refute it at one input. -/
def fnExactLeastInPartWrong : ChangeSpec := { name := "fnExactLeastInPart", fn := fun _ => fun
  | [d] => { results := [.lit (.bool false)], args := [d] }
  | _ => none }
def FnExactLeastInPartWrongFalsely : Prop := fnExactLeastInPartRow.holds Tryd.pinned (OpenSpec.ofChange fnExactLeastInPartWrong)

/-- 'laws.FnExactTrianglesAt': WHATEVER THE INPUT: true; the input reads as it did. -/
def fnExactTrianglesAtSpec : ChangeSpec := { name := "fnExactTrianglesAt", fn := fun _ => fun
  | [d] => { results := [.lit (.bool true)], args := [d] }
  | _ => none }
def fnExactTrianglesAtRow : OpenClaim := { program := "ytoolmknnmmecfaadoor", sum := "3d7b014c2ea233035d34d0c85ea8a0886fbe39c91b486a12b8b5093374cd0bfc", func := "loop.example/graphcluster/laws.FnExactTrianglesAt", spec := "fnExactTrianglesAt", named := ["math/bits.deBruijn32tab"], apart := false, laid := [("math/bits.deBruijn32tab", laid_math_bits_deBruijn32tab)] }
def FnExactTrianglesAtSaid : Prop := fnExactTrianglesAtRow.holds Tryd.pinned (OpenSpec.ofChange fnExactTrianglesAtSpec)

/-- ITS FALSE NEIGHBOUR: 'it returns false'. Refute it at one input. -/
def fnExactTrianglesAtWrong : ChangeSpec := { name := "fnExactTrianglesAt", fn := fun _ => fun
  | [d] => { results := [.lit (.bool false)], args := [d] }
  | _ => none }
def FnExactTrianglesAtWrongFalsely : Prop := fnExactTrianglesAtRow.holds Tryd.pinned (OpenSpec.ofChange fnExactTrianglesAtWrong)

/-- 'laws.FnLeastInPart': WHATEVER THE INPUT: true; the input reads as it did. -/
def fnLeastInPartSpec : ChangeSpec := { name := "fnLeastInPart", fn := fun _ => fun
  | [d] => { results := [.lit (.bool true)], args := [d] }
  | _ => none }
def fnLeastInPartRow : OpenClaim := { program := "ytoolmknnmmecfaadoor", sum := "3d7b014c2ea233035d34d0c85ea8a0886fbe39c91b486a12b8b5093374cd0bfc", func := "loop.example/graphcluster/laws.FnLeastInPart", spec := "fnLeastInPart", named := ["math/bits.deBruijn32tab"], apart := false, laid := [("math/bits.deBruijn32tab", laid_math_bits_deBruijn32tab)] }
def FnLeastInPartSaid : Prop := fnLeastInPartRow.holds Tryd.pinned (OpenSpec.ofChange fnLeastInPartSpec)

/-- ITS FALSE NEIGHBOUR: 'it returns false'. Refute it at one input. -/
def fnLeastInPartWrong : ChangeSpec := { name := "fnLeastInPart", fn := fun _ => fun
  | [d] => { results := [.lit (.bool false)], args := [d] }
  | _ => none }
def FnLeastInPartWrongFalsely : Prop := fnLeastInPartRow.holds Tryd.pinned (OpenSpec.ofChange fnLeastInPartWrong)

/-- 'laws.FnTrianglesAt': WHATEVER THE INPUT: true; the input reads as it did. -/
def fnTrianglesAtSpec : ChangeSpec := { name := "fnTrianglesAt", fn := fun _ => fun
  | [d] => { results := [.lit (.bool true)], args := [d] }
  | _ => none }
def fnTrianglesAtRow : OpenClaim := { program := "ytoolmknnmmecfaadoor", sum := "3d7b014c2ea233035d34d0c85ea8a0886fbe39c91b486a12b8b5093374cd0bfc", func := "loop.example/graphcluster/laws.FnTrianglesAt", spec := "fnTrianglesAt", named := ["math/bits.deBruijn32tab"], apart := false, laid := [("math/bits.deBruijn32tab", laid_math_bits_deBruijn32tab)] }
def FnTrianglesAtSaid : Prop := fnTrianglesAtRow.holds Tryd.pinned (OpenSpec.ofChange fnTrianglesAtSpec)

/-- ITS FALSE NEIGHBOUR: 'it returns false'. Refute it at one input. -/
def fnTrianglesAtWrong : ChangeSpec := { name := "fnTrianglesAt", fn := fun _ => fun
  | [d] => { results := [.lit (.bool false)], args := [d] }
  | _ => none }
def FnTrianglesAtWrongFalsely : Prop := fnTrianglesAtRow.holds Tryd.pinned (OpenSpec.ofChange fnTrianglesAtWrong)

/-- 'laws.FnExactCoresOf': WHATEVER THE INPUT: true; the input reads as it did. -/
def fnExactCoresOfSpec : ChangeSpec := { name := "fnExactCoresOf", fn := fun _ => fun
  | [d] => { results := [.lit (.bool true)], args := [d] }
  | _ => none }
def fnExactCoresOfRow : OpenClaim := { program := "ytoolmknnmmecfaadoor", sum := "3d7b014c2ea233035d34d0c85ea8a0886fbe39c91b486a12b8b5093374cd0bfc", func := "loop.example/graphcluster/laws.FnExactCoresOf", spec := "fnExactCoresOf", named := ["math/bits.deBruijn32tab"], apart := false, laid := [("math/bits.deBruijn32tab", laid_math_bits_deBruijn32tab)] }
def FnExactCoresOfSaid : Prop := fnExactCoresOfRow.holds Tryd.pinned (OpenSpec.ofChange fnExactCoresOfSpec)

/-- ITS FALSE NEIGHBOUR: 'it returns false'. Refute it at one input. -/
def fnExactCoresOfWrong : ChangeSpec := { name := "fnExactCoresOf", fn := fun _ => fun
  | [d] => { results := [.lit (.bool false)], args := [d] }
  | _ => none }
def FnExactCoresOfWrongFalsely : Prop := fnExactCoresOfRow.holds Tryd.pinned (OpenSpec.ofChange fnExactCoresOfWrong)

/-- 'laws.FnCoresOf': WHATEVER THE INPUT: true; the input reads as it did. -/
def fnCoresOfSpec : ChangeSpec := { name := "fnCoresOf", fn := fun _ => fun
  | [d] => { results := [.lit (.bool true)], args := [d] }
  | _ => none }
def fnCoresOfRow : OpenClaim := { program := "ytoolmknnmmecfaadoor", sum := "3d7b014c2ea233035d34d0c85ea8a0886fbe39c91b486a12b8b5093374cd0bfc", func := "loop.example/graphcluster/laws.FnCoresOf", spec := "fnCoresOf", named := ["math/bits.deBruijn32tab"], apart := false, laid := [("math/bits.deBruijn32tab", laid_math_bits_deBruijn32tab)] }
def FnCoresOfSaid : Prop := fnCoresOfRow.holds Tryd.pinned (OpenSpec.ofChange fnCoresOfSpec)

/-- ITS FALSE NEIGHBOUR: 'it returns false'. Refute it at one input. -/
def fnCoresOfWrong : ChangeSpec := { name := "fnCoresOf", fn := fun _ => fun
  | [d] => { results := [.lit (.bool false)], args := [d] }
  | _ => none }
def FnCoresOfWrongFalsely : Prop := fnCoresOfRow.holds Tryd.pinned (OpenSpec.ofChange fnCoresOfWrong)

/- THE SECOND FORM. 'bulk': how many values and letters a reading holds, each counted each time it is reached (what is shared counts as often as it is met; a slice's spare places count too). A statement '..UptoSaid' is the law's where the arguments, and the package variables that the reading takes, are together of bulk at most 1048576: NARROWER than '..Said'. Prove '..Said' where nothing that the law and all that it calls make is longer than what came in: it says more and counts as full. Else prove '..UptoSaid'. A law counts once. -/
mutual
def uptoBulk {H : Type} : DataW H → Nat
  | .lit (.string bytes) => bytes.length + 1
  | .lit _ => 1
  | .nil => 1
  | .ptr d => uptoBulk d + 1
  | .slice elems spare => uptoBulkAll elems + uptoBulkAll spare + 1
  | .agg parts => uptoBulkAll parts + 1
  | .iface _ d => uptoBulk d + 1
  | .map entries => uptoBulkEntries entries + 1
  | .held _ => 1
def uptoBulkAll {H : Type} : List (DataW H) → Nat
  | [] => 0
  | d :: r => uptoBulk d + uptoBulkAll r
def uptoBulkEntries {H : Type} : List (Lit × DataW H) → Nat
  | [] => 0
  | x :: r => uptoBulkEntry x + uptoBulkEntries r
def uptoBulkEntry {H : Type} : Lit × DataW H → Nat
  | (.string bytes, d) => bytes.length + uptoBulk d + 1
  | (_, d) => uptoBulk d + 1
 end
def uptoSmall : (H : Type) → List (DataW H) → Bool := fun _ ds => decide (uptoBulkAll ds ≤ 1048576)
def OpenSpec.upto (s : _root_.Go.ChangeSpec) : _root_.Go.OpenSpec := { _root_.Go.OpenSpec.ofChange s with cond := some uptoSmall }

/-- 'laws.FnExactNextOf', WHERE WHAT IT READS IS OF BULK AT MOST 1048576: true; the input reads as it did. -/
def fnExactNextOfUptoRow : OpenClaim := { program := "ytoolmknnmmecfaadoor", sum := "3d7b014c2ea233035d34d0c85ea8a0886fbe39c91b486a12b8b5093374cd0bfc", func := "loop.example/graphcluster/laws.FnExactNextOf", spec := "fnExactNextOf", named := ["math/bits.deBruijn32tab"], apart := false, laid := [("math/bits.deBruijn32tab", laid_math_bits_deBruijn32tab)], narrowed := true }
def FnExactNextOfUptoSaid : Prop := fnExactNextOfUptoRow.holds Tryd.pinned (OpenSpec.upto fnExactNextOfSpec)

/-- 'laws.FnExactNearOf', WHERE WHAT IT READS IS OF BULK AT MOST 1048576: true; the input reads as it did. -/
def fnExactNearOfUptoRow : OpenClaim := { program := "ytoolmknnmmecfaadoor", sum := "3d7b014c2ea233035d34d0c85ea8a0886fbe39c91b486a12b8b5093374cd0bfc", func := "loop.example/graphcluster/laws.FnExactNearOf", spec := "fnExactNearOf", named := ["math/bits.deBruijn32tab"], apart := false, laid := [("math/bits.deBruijn32tab", laid_math_bits_deBruijn32tab)], narrowed := true }
def FnExactNearOfUptoSaid : Prop := fnExactNearOfUptoRow.holds Tryd.pinned (OpenSpec.upto fnExactNearOfSpec)

/-- 'laws.FnNextOf', WHERE WHAT IT READS IS OF BULK AT MOST 1048576: true; the input reads as it did. -/
def fnNextOfUptoRow : OpenClaim := { program := "ytoolmknnmmecfaadoor", sum := "3d7b014c2ea233035d34d0c85ea8a0886fbe39c91b486a12b8b5093374cd0bfc", func := "loop.example/graphcluster/laws.FnNextOf", spec := "fnNextOf", named := ["math/bits.deBruijn32tab"], apart := false, laid := [("math/bits.deBruijn32tab", laid_math_bits_deBruijn32tab)], narrowed := true }
def FnNextOfUptoSaid : Prop := fnNextOfUptoRow.holds Tryd.pinned (OpenSpec.upto fnNextOfSpec)

/-- 'laws.FnExactHopsFrom', WHERE WHAT IT READS IS OF BULK AT MOST 1048576: true; the input reads as it did. -/
def fnExactHopsFromUptoRow : OpenClaim := { program := "ytoolmknnmmecfaadoor", sum := "3d7b014c2ea233035d34d0c85ea8a0886fbe39c91b486a12b8b5093374cd0bfc", func := "loop.example/graphcluster/laws.FnExactHopsFrom", spec := "fnExactHopsFrom", named := ["math/bits.deBruijn32tab"], apart := false, laid := [("math/bits.deBruijn32tab", laid_math_bits_deBruijn32tab)], narrowed := true }
def FnExactHopsFromUptoSaid : Prop := fnExactHopsFromUptoRow.holds Tryd.pinned (OpenSpec.upto fnExactHopsFromSpec)

/-- 'laws.FnDegreesOf', WHERE WHAT IT READS IS OF BULK AT MOST 1048576: true; the input reads as it did. -/
def fnDegreesOfUptoRow : OpenClaim := { program := "ytoolmknnmmecfaadoor", sum := "3d7b014c2ea233035d34d0c85ea8a0886fbe39c91b486a12b8b5093374cd0bfc", func := "loop.example/graphcluster/laws.FnDegreesOf", spec := "fnDegreesOf", named := ["math/bits.deBruijn32tab"], apart := false, laid := [("math/bits.deBruijn32tab", laid_math_bits_deBruijn32tab)], narrowed := true }
def FnDegreesOfUptoSaid : Prop := fnDegreesOfUptoRow.holds Tryd.pinned (OpenSpec.upto fnDegreesOfSpec)

/-- 'laws.FnExactLeastInPart', WHERE WHAT IT READS IS OF BULK AT MOST 1048576: true; the input reads as it did. -/
def fnExactLeastInPartUptoRow : OpenClaim := { program := "ytoolmknnmmecfaadoor", sum := "3d7b014c2ea233035d34d0c85ea8a0886fbe39c91b486a12b8b5093374cd0bfc", func := "loop.example/graphcluster/laws.FnExactLeastInPart", spec := "fnExactLeastInPart", named := ["math/bits.deBruijn32tab"], apart := false, laid := [("math/bits.deBruijn32tab", laid_math_bits_deBruijn32tab)], narrowed := true }
def FnExactLeastInPartUptoSaid : Prop := fnExactLeastInPartUptoRow.holds Tryd.pinned (OpenSpec.upto fnExactLeastInPartSpec)

/-- 'laws.FnExactTrianglesAt', WHERE WHAT IT READS IS OF BULK AT MOST 1048576: true; the input reads as it did. -/
def fnExactTrianglesAtUptoRow : OpenClaim := { program := "ytoolmknnmmecfaadoor", sum := "3d7b014c2ea233035d34d0c85ea8a0886fbe39c91b486a12b8b5093374cd0bfc", func := "loop.example/graphcluster/laws.FnExactTrianglesAt", spec := "fnExactTrianglesAt", named := ["math/bits.deBruijn32tab"], apart := false, laid := [("math/bits.deBruijn32tab", laid_math_bits_deBruijn32tab)], narrowed := true }
def FnExactTrianglesAtUptoSaid : Prop := fnExactTrianglesAtUptoRow.holds Tryd.pinned (OpenSpec.upto fnExactTrianglesAtSpec)

/-- 'laws.FnLeastInPart', WHERE WHAT IT READS IS OF BULK AT MOST 1048576: true; the input reads as it did. -/
def fnLeastInPartUptoRow : OpenClaim := { program := "ytoolmknnmmecfaadoor", sum := "3d7b014c2ea233035d34d0c85ea8a0886fbe39c91b486a12b8b5093374cd0bfc", func := "loop.example/graphcluster/laws.FnLeastInPart", spec := "fnLeastInPart", named := ["math/bits.deBruijn32tab"], apart := false, laid := [("math/bits.deBruijn32tab", laid_math_bits_deBruijn32tab)], narrowed := true }
def FnLeastInPartUptoSaid : Prop := fnLeastInPartUptoRow.holds Tryd.pinned (OpenSpec.upto fnLeastInPartSpec)

/-- 'laws.FnTrianglesAt', WHERE WHAT IT READS IS OF BULK AT MOST 1048576: true; the input reads as it did. -/
def fnTrianglesAtUptoRow : OpenClaim := { program := "ytoolmknnmmecfaadoor", sum := "3d7b014c2ea233035d34d0c85ea8a0886fbe39c91b486a12b8b5093374cd0bfc", func := "loop.example/graphcluster/laws.FnTrianglesAt", spec := "fnTrianglesAt", named := ["math/bits.deBruijn32tab"], apart := false, laid := [("math/bits.deBruijn32tab", laid_math_bits_deBruijn32tab)], narrowed := true }
def FnTrianglesAtUptoSaid : Prop := fnTrianglesAtUptoRow.holds Tryd.pinned (OpenSpec.upto fnTrianglesAtSpec)

/-- 'laws.FnExactCoresOf', WHERE WHAT IT READS IS OF BULK AT MOST 1048576: true; the input reads as it did. -/
def fnExactCoresOfUptoRow : OpenClaim := { program := "ytoolmknnmmecfaadoor", sum := "3d7b014c2ea233035d34d0c85ea8a0886fbe39c91b486a12b8b5093374cd0bfc", func := "loop.example/graphcluster/laws.FnExactCoresOf", spec := "fnExactCoresOf", named := ["math/bits.deBruijn32tab"], apart := false, laid := [("math/bits.deBruijn32tab", laid_math_bits_deBruijn32tab)], narrowed := true }
def FnExactCoresOfUptoSaid : Prop := fnExactCoresOfUptoRow.holds Tryd.pinned (OpenSpec.upto fnExactCoresOfSpec)

/-- 'laws.FnCoresOf', WHERE WHAT IT READS IS OF BULK AT MOST 1048576: true; the input reads as it did. -/
def fnCoresOfUptoRow : OpenClaim := { program := "ytoolmknnmmecfaadoor", sum := "3d7b014c2ea233035d34d0c85ea8a0886fbe39c91b486a12b8b5093374cd0bfc", func := "loop.example/graphcluster/laws.FnCoresOf", spec := "fnCoresOf", named := ["math/bits.deBruijn32tab"], apart := false, laid := [("math/bits.deBruijn32tab", laid_math_bits_deBruijn32tab)], narrowed := true }
def FnCoresOfUptoSaid : Prop := fnCoresOfUptoRow.holds Tryd.pinned (OpenSpec.upto fnCoresOfSpec)

end Rows
end Go.Proofs.YtoolmknnmmecfaaDoor
