/-
  No cell of these rows narrows 'for every input' (looked for: loops, veiled, ifaces, maps, wideKeys, modest, calm, conditions, laid).
  DERIVED. THE GIVEN ROWS OF THIS SEAT. 12 by the template 'for every input the law returns true; each argument reads behind the call as it read before'; 0 by the template 'total and deterministic' (their statements: YtpgdjhoicodebaaTotals.lean).
  GIVEN WITH THE SEED: the statements are not yours to turn. If you find one false, say at which input.
  Laid BY PROGRAM, IN A SANDBOX (cutbox-rows.mjs): the forced cells as the released guide's own fill.sh prints them over the translation 1cfdf64104b5c98a… (all of the seat's roots in one cut). By AI agents, Wed Nov 11 2026. No macro, syntax, notation, axiom, sorry.
-/
import Derived.Test.YtpgdjhoicodebaaChecked
import GoSem.Claim
import GoSem.ClaimJoined
import GoSem.ClaimMapViews
import Derived.JoinedTies
import Derived.KernelRfl
namespace Go.Proofs.Ytpgdjhoicodebaa
/- THE CELL 'sum', in the pinned program and in every row, IS THE sha256 OF THE DUMP (.gsa) THAT YtpgdjhoicodebaaProg.lean LOADS. Nothing in Lean hashes anything: it is a label: what it is worth is what the hold of that sum in a sandbox is worth. -/
noncomputable def Try.pinned : Pinned := { name := "ytpgdjhoicodebaa", sum := "1cfdf64104b5c98a6de38e566e44ff00fe11f898a3873a3816fb2f2349f7a926", checked := Try.checked }
namespace Rows
def none {H : Type} : Left H := { results := [], args := [] }

/-- 'laws.FnExactConstants': WHATEVER THE INPUT: true; the input reads as it did. -/
def fnExactConstantsSpec : ChangeSpec := { name := "fnExactConstants", fn := fun _ => fun
  | [] => { results := [.lit (.bool true)], args := [] }
  | _ => none }
def fnExactConstantsRow : OpenClaim := { program := "ytpgdjhoicodebaa", sum := "1cfdf64104b5c98a6de38e566e44ff00fe11f898a3873a3816fb2f2349f7a926", func := "loop.example/graphcluster/laws.FnExactConstants", spec := "fnExactConstants", apart := false }
def FnExactConstantsSaid : Prop := fnExactConstantsRow.holds Try.pinned (OpenSpec.ofChange fnExactConstantsSpec)

/-- ITS FALSE NEIGHBOUR: 'it returns false'. Refute it at one input. -/
def fnExactConstantsWrong : ChangeSpec := { name := "fnExactConstants", fn := fun _ => fun
  | [] => { results := [.lit (.bool false)], args := [] }
  | _ => none }
def FnExactConstantsWrongFalsely : Prop := fnExactConstantsRow.holds Try.pinned (OpenSpec.ofChange fnExactConstantsWrong)

/-- 'laws.FnExactOwnerOf': WHATEVER THE INPUT: true; the input reads as it did. -/
def fnExactOwnerOfSpec : ChangeSpec := { name := "fnExactOwnerOf", fn := fun _ => fun
  | [d1, d2] => { results := [.lit (.bool true)], args := [d1, d2] }
  | _ => none }
def fnExactOwnerOfRow : OpenClaim := { program := "ytpgdjhoicodebaa", sum := "1cfdf64104b5c98a6de38e566e44ff00fe11f898a3873a3816fb2f2349f7a926", func := "loop.example/graphcluster/laws.FnExactOwnerOf", spec := "fnExactOwnerOf", apart := false }
def FnExactOwnerOfSaid : Prop := fnExactOwnerOfRow.holds Try.pinned (OpenSpec.ofChange fnExactOwnerOfSpec)

/-- ITS FALSE NEIGHBOUR: 'it returns false'. Refute it at one input. -/
def fnExactOwnerOfWrong : ChangeSpec := { name := "fnExactOwnerOf", fn := fun _ => fun
  | [d1, d2] => { results := [.lit (.bool false)], args := [d1, d2] }
  | _ => none }
def FnExactOwnerOfWrongFalsely : Prop := fnExactOwnerOfRow.holds Try.pinned (OpenSpec.ofChange fnExactOwnerOfWrong)

/-- 'laws.FnExactProgramValid': WHATEVER THE INPUT: true; the input reads as it did. -/
def fnExactProgramValidSpec : ChangeSpec := { name := "fnExactProgramValid", fn := fun _ => fun
  | [d] => { results := [.lit (.bool true)], args := [d] }
  | _ => none }
def fnExactProgramValidRow : OpenClaim := { program := "ytpgdjhoicodebaa", sum := "1cfdf64104b5c98a6de38e566e44ff00fe11f898a3873a3816fb2f2349f7a926", func := "loop.example/graphcluster/laws.FnExactProgramValid", spec := "fnExactProgramValid", apart := false }
def FnExactProgramValidSaid : Prop := fnExactProgramValidRow.holds Try.pinned (OpenSpec.ofChange fnExactProgramValidSpec)

/-- ITS FALSE NEIGHBOUR: 'it returns false'. Refute it at one input. -/
def fnExactProgramValidWrong : ChangeSpec := { name := "fnExactProgramValid", fn := fun _ => fun
  | [d] => { results := [.lit (.bool false)], args := [d] }
  | _ => none }
def FnExactProgramValidWrongFalsely : Prop := fnExactProgramValidRow.holds Try.pinned (OpenSpec.ofChange fnExactProgramValidWrong)

/-- 'laws.FnExactBytesValid': WHATEVER THE INPUT: true; the input reads as it did. -/
def fnExactBytesValidSpec : ChangeSpec := { name := "fnExactBytesValid", fn := fun _ => fun
  | [d] => { results := [.lit (.bool true)], args := [d] }
  | _ => none }
def fnExactBytesValidRow : OpenClaim := { program := "ytpgdjhoicodebaa", sum := "1cfdf64104b5c98a6de38e566e44ff00fe11f898a3873a3816fb2f2349f7a926", func := "loop.example/graphcluster/laws.FnExactBytesValid", spec := "fnExactBytesValid", apart := false }
def FnExactBytesValidSaid : Prop := fnExactBytesValidRow.holds Try.pinned (OpenSpec.ofChange fnExactBytesValidSpec)

/-- ITS FALSE NEIGHBOUR: 'it returns false'. Refute it at one input. -/
def fnExactBytesValidWrong : ChangeSpec := { name := "fnExactBytesValid", fn := fun _ => fun
  | [d] => { results := [.lit (.bool false)], args := [d] }
  | _ => none }
def FnExactBytesValidWrongFalsely : Prop := fnExactBytesValidRow.holds Try.pinned (OpenSpec.ofChange fnExactBytesValidWrong)

/-- 'laws.FnExactMostFrequent': WHATEVER THE INPUT: true; the input reads as it did. -/
def fnExactMostFrequentSpec : ChangeSpec := { name := "fnExactMostFrequent", fn := fun _ => fun
  | [d] => { results := [.lit (.bool true)], args := [d] }
  | _ => none }
def fnExactMostFrequentRow : OpenClaim := { program := "ytpgdjhoicodebaa", sum := "1cfdf64104b5c98a6de38e566e44ff00fe11f898a3873a3816fb2f2349f7a926", func := "loop.example/graphcluster/laws.FnExactMostFrequent", spec := "fnExactMostFrequent", apart := false }
def FnExactMostFrequentSaid : Prop := fnExactMostFrequentRow.holds Try.pinned (OpenSpec.ofChange fnExactMostFrequentSpec)

/-- ITS FALSE NEIGHBOUR: 'it returns false'. Refute it at one input. -/
def fnExactMostFrequentWrong : ChangeSpec := { name := "fnExactMostFrequent", fn := fun _ => fun
  | [d] => { results := [.lit (.bool false)], args := [d] }
  | _ => none }
def FnExactMostFrequentWrongFalsely : Prop := fnExactMostFrequentRow.holds Try.pinned (OpenSpec.ofChange fnExactMostFrequentWrong)

/-- 'laws.FnExactEncodeNumber': WHATEVER THE INPUT: true; the input reads as it did. -/
def fnExactEncodeNumberSpec : ChangeSpec := { name := "fnExactEncodeNumber", fn := fun _ => fun
  | [d] => { results := [.lit (.bool true)], args := [d] }
  | _ => none }
def fnExactEncodeNumberRow : OpenClaim := { program := "ytpgdjhoicodebaa", sum := "1cfdf64104b5c98a6de38e566e44ff00fe11f898a3873a3816fb2f2349f7a926", func := "loop.example/graphcluster/laws.FnExactEncodeNumber", spec := "fnExactEncodeNumber", apart := false }
def FnExactEncodeNumberSaid : Prop := fnExactEncodeNumberRow.holds Try.pinned (OpenSpec.ofChange fnExactEncodeNumberSpec)

/-- ITS FALSE NEIGHBOUR: 'it returns false'. Refute it at one input. -/
def fnExactEncodeNumberWrong : ChangeSpec := { name := "fnExactEncodeNumber", fn := fun _ => fun
  | [d] => { results := [.lit (.bool false)], args := [d] }
  | _ => none }
def FnExactEncodeNumberWrongFalsely : Prop := fnExactEncodeNumberRow.holds Try.pinned (OpenSpec.ofChange fnExactEncodeNumberWrong)

/-- 'laws.FnExactCheckSum': WHATEVER THE INPUT: true; the input reads as it did. -/
def fnExactCheckSumSpec : ChangeSpec := { name := "fnExactCheckSum", fn := fun _ => fun
  | [d] => { results := [.lit (.bool true)], args := [d] }
  | _ => none }
def fnExactCheckSumRow : OpenClaim := { program := "ytpgdjhoicodebaa", sum := "1cfdf64104b5c98a6de38e566e44ff00fe11f898a3873a3816fb2f2349f7a926", func := "loop.example/graphcluster/laws.FnExactCheckSum", spec := "fnExactCheckSum", apart := false }
def FnExactCheckSumSaid : Prop := fnExactCheckSumRow.holds Try.pinned (OpenSpec.ofChange fnExactCheckSumSpec)

/-- ITS FALSE NEIGHBOUR: 'it returns false'. Refute it at one input. -/
def fnExactCheckSumWrong : ChangeSpec := { name := "fnExactCheckSum", fn := fun _ => fun
  | [d] => { results := [.lit (.bool false)], args := [d] }
  | _ => none }
def FnExactCheckSumWrongFalsely : Prop := fnExactCheckSumRow.holds Try.pinned (OpenSpec.ofChange fnExactCheckSumWrong)

/-- 'laws.FnManyAtLeast': WHATEVER THE INPUT: true; the input reads as it did. -/
def fnManyAtLeastSpec : ChangeSpec := { name := "fnManyAtLeast", fn := fun _ => fun
  | [d] => { results := [.lit (.bool true)], args := [d] }
  | _ => none }
def fnManyAtLeastRow : OpenClaim := { program := "ytpgdjhoicodebaa", sum := "1cfdf64104b5c98a6de38e566e44ff00fe11f898a3873a3816fb2f2349f7a926", func := "loop.example/graphcluster/laws.FnManyAtLeast", spec := "fnManyAtLeast", unfollowed := true, recurses := true, apart := false }
def FnManyAtLeastSaid : Prop := fnManyAtLeastRow.holds Try.pinned (OpenSpec.ofChange fnManyAtLeastSpec)

/-- ITS FALSE NEIGHBOUR: 'it returns false'. Refute it at one input. -/
def fnManyAtLeastWrong : ChangeSpec := { name := "fnManyAtLeast", fn := fun _ => fun
  | [d] => { results := [.lit (.bool false)], args := [d] }
  | _ => none }
def FnManyAtLeastWrongFalsely : Prop := fnManyAtLeastRow.holds Try.pinned (OpenSpec.ofChange fnManyAtLeastWrong)

/-- 'laws.FnExactOwnedBy': WHATEVER THE INPUT: true; the input reads as it did. -/
def fnExactOwnedBySpec : ChangeSpec := { name := "fnExactOwnedBy", fn := fun _ => fun
  | [d1, d2, d3] => { results := [.lit (.bool true)], args := [d1, d2, d3] }
  | _ => none }
def fnExactOwnedByRow : OpenClaim := { program := "ytpgdjhoicodebaa", sum := "1cfdf64104b5c98a6de38e566e44ff00fe11f898a3873a3816fb2f2349f7a926", func := "loop.example/graphcluster/laws.FnExactOwnedBy", spec := "fnExactOwnedBy", apart := false }
def FnExactOwnedBySaid : Prop := fnExactOwnedByRow.holds Try.pinned (OpenSpec.ofChange fnExactOwnedBySpec)

/-- ITS FALSE NEIGHBOUR: 'it returns false'. Refute it at one input. -/
def fnExactOwnedByWrong : ChangeSpec := { name := "fnExactOwnedBy", fn := fun _ => fun
  | [d1, d2, d3] => { results := [.lit (.bool false)], args := [d1, d2, d3] }
  | _ => none }
def FnExactOwnedByWrongFalsely : Prop := fnExactOwnedByRow.holds Try.pinned (OpenSpec.ofChange fnExactOwnedByWrong)

/-- 'laws.FnBytesValid': WHATEVER THE INPUT: true; the input reads as it did. -/
def fnBytesValidSpec : ChangeSpec := { name := "fnBytesValid", fn := fun _ => fun
  | [d] => { results := [.lit (.bool true)], args := [d] }
  | _ => none }
def fnBytesValidRow : OpenClaim := { program := "ytpgdjhoicodebaa", sum := "1cfdf64104b5c98a6de38e566e44ff00fe11f898a3873a3816fb2f2349f7a926", func := "loop.example/graphcluster/laws.FnBytesValid", spec := "fnBytesValid", apart := false }
def FnBytesValidSaid : Prop := fnBytesValidRow.holds Try.pinned (OpenSpec.ofChange fnBytesValidSpec)

/-- ITS FALSE NEIGHBOUR: 'it returns false'. Refute it at one input. -/
def fnBytesValidWrong : ChangeSpec := { name := "fnBytesValid", fn := fun _ => fun
  | [d] => { results := [.lit (.bool false)], args := [d] }
  | _ => none }
def FnBytesValidWrongFalsely : Prop := fnBytesValidRow.holds Try.pinned (OpenSpec.ofChange fnBytesValidWrong)

/-- 'laws.FnExactDiskValid': WHATEVER THE INPUT: true; the input reads as it did. -/
def fnExactDiskValidSpec : ChangeSpec := { name := "fnExactDiskValid", fn := fun _ => fun
  | [d] => { results := [.lit (.bool true)], args := [d] }
  | _ => none }
def fnExactDiskValidRow : OpenClaim := { program := "ytpgdjhoicodebaa", sum := "1cfdf64104b5c98a6de38e566e44ff00fe11f898a3873a3816fb2f2349f7a926", func := "loop.example/graphcluster/laws.FnExactDiskValid", spec := "fnExactDiskValid", apart := false }
def FnExactDiskValidSaid : Prop := fnExactDiskValidRow.holds Try.pinned (OpenSpec.ofChange fnExactDiskValidSpec)

/-- ITS FALSE NEIGHBOUR: 'it returns false'. Refute it at one input. -/
def fnExactDiskValidWrong : ChangeSpec := { name := "fnExactDiskValid", fn := fun _ => fun
  | [d] => { results := [.lit (.bool false)], args := [d] }
  | _ => none }
def FnExactDiskValidWrongFalsely : Prop := fnExactDiskValidRow.holds Try.pinned (OpenSpec.ofChange fnExactDiskValidWrong)

/-- 'laws.FnOwnerOf': WHATEVER THE INPUT: true; the input reads as it did. -/
def fnOwnerOfSpec : ChangeSpec := { name := "fnOwnerOf", fn := fun _ => fun
  | [d] => { results := [.lit (.bool true)], args := [d] }
  | _ => none }
def fnOwnerOfRow : OpenClaim := { program := "ytpgdjhoicodebaa", sum := "1cfdf64104b5c98a6de38e566e44ff00fe11f898a3873a3816fb2f2349f7a926", func := "loop.example/graphcluster/laws.FnOwnerOf", spec := "fnOwnerOf", apart := false }
def FnOwnerOfSaid : Prop := fnOwnerOfRow.holds Try.pinned (OpenSpec.ofChange fnOwnerOfSpec)

/-- ITS FALSE NEIGHBOUR: 'it returns false'. Refute it at one input. -/
def fnOwnerOfWrong : ChangeSpec := { name := "fnOwnerOf", fn := fun _ => fun
  | [d] => { results := [.lit (.bool false)], args := [d] }
  | _ => none }
def FnOwnerOfWrongFalsely : Prop := fnOwnerOfRow.holds Try.pinned (OpenSpec.ofChange fnOwnerOfWrong)

/- THE SECOND FORM. 'bulk': how many values and letters a reading holds, each counted each time it is reached (what is shared counts as often as it is met; a slice's spare places count too). A statement '..UptoSaid' is the law's where the arguments, and the package variables that the reading takes, are together of bulk at most 1048576: NARROWER than '..Said'. Prove '..Said' where nothing that the law and all that it calls make is longer than what came in: it says more and counts as full. Else prove '..UptoSaid'. A law counts once. -/
mutual
def uptoBulk {H : Type} : DataW H → Nat
  | .lit (.string bytes) => bytes.length + 1
  | .lit _ => 1
  | .nil => 1
  | .ptr d => uptoBulk d + 1
  | .slice elems spare => uptoBulkAll elems + uptoBulkAll spare + 1
  | .agg parts => uptoBulkAll parts + 1
  | .iface _ d => uptoBulk d + 1
  | .map entries => uptoBulkEntries entries + 1
  | .held _ => 1
def uptoBulkAll {H : Type} : List (DataW H) → Nat
  | [] => 0
  | d :: r => uptoBulk d + uptoBulkAll r
def uptoBulkEntries {H : Type} : List (Lit × DataW H) → Nat
  | [] => 0
  | x :: r => uptoBulkEntry x + uptoBulkEntries r
def uptoBulkEntry {H : Type} : Lit × DataW H → Nat
  | (.string bytes, d) => bytes.length + uptoBulk d + 1
  | (_, d) => uptoBulk d + 1
 end
def uptoSmall : (H : Type) → List (DataW H) → Bool := fun _ ds => decide (uptoBulkAll ds ≤ 1048576)
def OpenSpec.upto (s : _root_.Go.ChangeSpec) : _root_.Go.OpenSpec := { _root_.Go.OpenSpec.ofChange s with cond := some uptoSmall }

/-- 'laws.FnExactConstants', WHERE WHAT IT READS IS OF BULK AT MOST 1048576: true; the input reads as it did. -/
def fnExactConstantsUptoRow : OpenClaim := { program := "ytpgdjhoicodebaa", sum := "1cfdf64104b5c98a6de38e566e44ff00fe11f898a3873a3816fb2f2349f7a926", func := "loop.example/graphcluster/laws.FnExactConstants", spec := "fnExactConstants", apart := false, narrowed := true }
def FnExactConstantsUptoSaid : Prop := fnExactConstantsUptoRow.holds Try.pinned (OpenSpec.upto fnExactConstantsSpec)

/-- 'laws.FnExactOwnerOf', WHERE WHAT IT READS IS OF BULK AT MOST 1048576: true; the input reads as it did. -/
def fnExactOwnerOfUptoRow : OpenClaim := { program := "ytpgdjhoicodebaa", sum := "1cfdf64104b5c98a6de38e566e44ff00fe11f898a3873a3816fb2f2349f7a926", func := "loop.example/graphcluster/laws.FnExactOwnerOf", spec := "fnExactOwnerOf", apart := false, narrowed := true }
def FnExactOwnerOfUptoSaid : Prop := fnExactOwnerOfUptoRow.holds Try.pinned (OpenSpec.upto fnExactOwnerOfSpec)

/-- 'laws.FnExactProgramValid', WHERE WHAT IT READS IS OF BULK AT MOST 1048576: true; the input reads as it did. -/
def fnExactProgramValidUptoRow : OpenClaim := { program := "ytpgdjhoicodebaa", sum := "1cfdf64104b5c98a6de38e566e44ff00fe11f898a3873a3816fb2f2349f7a926", func := "loop.example/graphcluster/laws.FnExactProgramValid", spec := "fnExactProgramValid", apart := false, narrowed := true }
def FnExactProgramValidUptoSaid : Prop := fnExactProgramValidUptoRow.holds Try.pinned (OpenSpec.upto fnExactProgramValidSpec)

/-- 'laws.FnExactBytesValid', WHERE WHAT IT READS IS OF BULK AT MOST 1048576: true; the input reads as it did. -/
def fnExactBytesValidUptoRow : OpenClaim := { program := "ytpgdjhoicodebaa", sum := "1cfdf64104b5c98a6de38e566e44ff00fe11f898a3873a3816fb2f2349f7a926", func := "loop.example/graphcluster/laws.FnExactBytesValid", spec := "fnExactBytesValid", apart := false, narrowed := true }
def FnExactBytesValidUptoSaid : Prop := fnExactBytesValidUptoRow.holds Try.pinned (OpenSpec.upto fnExactBytesValidSpec)

/-- 'laws.FnExactMostFrequent', WHERE WHAT IT READS IS OF BULK AT MOST 1048576: true; the input reads as it did. -/
def fnExactMostFrequentUptoRow : OpenClaim := { program := "ytpgdjhoicodebaa", sum := "1cfdf64104b5c98a6de38e566e44ff00fe11f898a3873a3816fb2f2349f7a926", func := "loop.example/graphcluster/laws.FnExactMostFrequent", spec := "fnExactMostFrequent", apart := false, narrowed := true }
def FnExactMostFrequentUptoSaid : Prop := fnExactMostFrequentUptoRow.holds Try.pinned (OpenSpec.upto fnExactMostFrequentSpec)

/-- 'laws.FnExactEncodeNumber', WHERE WHAT IT READS IS OF BULK AT MOST 1048576: true; the input reads as it did. -/
def fnExactEncodeNumberUptoRow : OpenClaim := { program := "ytpgdjhoicodebaa", sum := "1cfdf64104b5c98a6de38e566e44ff00fe11f898a3873a3816fb2f2349f7a926", func := "loop.example/graphcluster/laws.FnExactEncodeNumber", spec := "fnExactEncodeNumber", apart := false, narrowed := true }
def FnExactEncodeNumberUptoSaid : Prop := fnExactEncodeNumberUptoRow.holds Try.pinned (OpenSpec.upto fnExactEncodeNumberSpec)

/-- 'laws.FnExactCheckSum', WHERE WHAT IT READS IS OF BULK AT MOST 1048576: true; the input reads as it did. -/
def fnExactCheckSumUptoRow : OpenClaim := { program := "ytpgdjhoicodebaa", sum := "1cfdf64104b5c98a6de38e566e44ff00fe11f898a3873a3816fb2f2349f7a926", func := "loop.example/graphcluster/laws.FnExactCheckSum", spec := "fnExactCheckSum", apart := false, narrowed := true }
def FnExactCheckSumUptoSaid : Prop := fnExactCheckSumUptoRow.holds Try.pinned (OpenSpec.upto fnExactCheckSumSpec)

/-- 'laws.FnManyAtLeast', WHERE WHAT IT READS IS OF BULK AT MOST 1048576: true; the input reads as it did. -/
def fnManyAtLeastUptoRow : OpenClaim := { program := "ytpgdjhoicodebaa", sum := "1cfdf64104b5c98a6de38e566e44ff00fe11f898a3873a3816fb2f2349f7a926", func := "loop.example/graphcluster/laws.FnManyAtLeast", spec := "fnManyAtLeast", unfollowed := true, recurses := true, apart := false, narrowed := true }
def FnManyAtLeastUptoSaid : Prop := fnManyAtLeastUptoRow.holds Try.pinned (OpenSpec.upto fnManyAtLeastSpec)

/-- 'laws.FnExactOwnedBy', WHERE WHAT IT READS IS OF BULK AT MOST 1048576: true; the input reads as it did. -/
def fnExactOwnedByUptoRow : OpenClaim := { program := "ytpgdjhoicodebaa", sum := "1cfdf64104b5c98a6de38e566e44ff00fe11f898a3873a3816fb2f2349f7a926", func := "loop.example/graphcluster/laws.FnExactOwnedBy", spec := "fnExactOwnedBy", apart := false, narrowed := true }
def FnExactOwnedByUptoSaid : Prop := fnExactOwnedByUptoRow.holds Try.pinned (OpenSpec.upto fnExactOwnedBySpec)

/-- 'laws.FnBytesValid', WHERE WHAT IT READS IS OF BULK AT MOST 1048576: true; the input reads as it did. -/
def fnBytesValidUptoRow : OpenClaim := { program := "ytpgdjhoicodebaa", sum := "1cfdf64104b5c98a6de38e566e44ff00fe11f898a3873a3816fb2f2349f7a926", func := "loop.example/graphcluster/laws.FnBytesValid", spec := "fnBytesValid", apart := false, narrowed := true }
def FnBytesValidUptoSaid : Prop := fnBytesValidUptoRow.holds Try.pinned (OpenSpec.upto fnBytesValidSpec)

/-- 'laws.FnExactDiskValid', WHERE WHAT IT READS IS OF BULK AT MOST 1048576: true; the input reads as it did. -/
def fnExactDiskValidUptoRow : OpenClaim := { program := "ytpgdjhoicodebaa", sum := "1cfdf64104b5c98a6de38e566e44ff00fe11f898a3873a3816fb2f2349f7a926", func := "loop.example/graphcluster/laws.FnExactDiskValid", spec := "fnExactDiskValid", apart := false, narrowed := true }
def FnExactDiskValidUptoSaid : Prop := fnExactDiskValidUptoRow.holds Try.pinned (OpenSpec.upto fnExactDiskValidSpec)

/-- 'laws.FnOwnerOf', WHERE WHAT IT READS IS OF BULK AT MOST 1048576: true; the input reads as it did. -/
def fnOwnerOfUptoRow : OpenClaim := { program := "ytpgdjhoicodebaa", sum := "1cfdf64104b5c98a6de38e566e44ff00fe11f898a3873a3816fb2f2349f7a926", func := "loop.example/graphcluster/laws.FnOwnerOf", spec := "fnOwnerOf", apart := false, narrowed := true }
def FnOwnerOfUptoSaid : Prop := fnOwnerOfUptoRow.holds Try.pinned (OpenSpec.upto fnOwnerOfSpec)

end Rows
end Go.Proofs.Ytpgdjhoicodebaa
