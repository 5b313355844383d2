/-
  No cell of these rows narrows 'for every input' (looked for: loops, veiled, ifaces, maps, wideKeys, modest, calm, conditions, laid).
  DERIVED. THE GIVEN ROWS OF THIS SEAT. 12 by the template 'for every input the law returns true; each argument reads behind the call as it read before'; 0 by the template 'total and deterministic' (their statements: YtddhnngaopjjnaaTotals.lean).
  GIVEN WITH THE SEED: the statements are not yours to turn. If you find one false, say at which input.
  Laid BY PROGRAM, IN A SANDBOX (cutbox-rows.mjs): the forced cells as the released guide's own fill.sh prints them over the translation 2c3ddb035aae6ef2… (all of the seat's roots in one cut). By AI agents, Wed Nov 11 2026. No macro, syntax, notation, axiom, sorry.
-/
import Derived.Test.YtddhnngaopjjnaaChecked
import GoSem.Claim
import GoSem.ClaimJoined
import GoSem.ClaimMapViews
import Derived.JoinedTies
import Derived.KernelRfl
namespace Go.Proofs.Ytddhnngaopjjnaa
/- THE CELL 'sum', in the pinned program and in every row, IS THE sha256 OF THE DUMP (.gsa) THAT YtddhnngaopjjnaaProg.lean LOADS. Nothing in Lean hashes anything: it is a label: what it is worth is what the hold of that sum in a sandbox is worth. -/
noncomputable def Try.pinned : Pinned := { name := "ytddhnngaopjjnaa", sum := "2c3ddb035aae6ef21a8e370a18ae4d6083ab29ea2781382a19c0aaeb60549ff4", checked := Try.checked }
namespace Rows
def none {H : Type} : Left H := { results := [], args := [] }

/-- 'laws.FnCheckSum': WHATEVER THE INPUT: true; the input reads as it did. -/
def fnCheckSumSpec : ChangeSpec := { name := "fnCheckSum", fn := fun _ => fun
  | [d] => { results := [.lit (.bool true)], args := [d] }
  | _ => none }
def fnCheckSumRow : OpenClaim := { program := "ytddhnngaopjjnaa", sum := "2c3ddb035aae6ef21a8e370a18ae4d6083ab29ea2781382a19c0aaeb60549ff4", func := "loop.example/graphcluster/laws.FnCheckSum", spec := "fnCheckSum", apart := false }
def FnCheckSumSaid : Prop := fnCheckSumRow.holds Try.pinned (OpenSpec.ofChange fnCheckSumSpec)

/-- ITS FALSE NEIGHBOUR: 'it returns false'. Refute it at one input. -/
def fnCheckSumWrong : ChangeSpec := { name := "fnCheckSum", fn := fun _ => fun
  | [d] => { results := [.lit (.bool false)], args := [d] }
  | _ => none }
def FnCheckSumWrongFalsely : Prop := fnCheckSumRow.holds Try.pinned (OpenSpec.ofChange fnCheckSumWrong)

/-- 'laws.FnExactEdgeBody': WHATEVER THE INPUT: true; the input reads as it did. -/
def fnExactEdgeBodySpec : ChangeSpec := { name := "fnExactEdgeBody", fn := fun _ => fun
  | [d] => { results := [.lit (.bool true)], args := [d] }
  | _ => none }
def fnExactEdgeBodyRow : OpenClaim := { program := "ytddhnngaopjjnaa", sum := "2c3ddb035aae6ef21a8e370a18ae4d6083ab29ea2781382a19c0aaeb60549ff4", func := "loop.example/graphcluster/laws.FnExactEdgeBody", spec := "fnExactEdgeBody", apart := false }
def FnExactEdgeBodySaid : Prop := fnExactEdgeBodyRow.holds Try.pinned (OpenSpec.ofChange fnExactEdgeBodySpec)

/-- ITS FALSE NEIGHBOUR: 'it returns false'. Refute it at one input. -/
def fnExactEdgeBodyWrong : ChangeSpec := { name := "fnExactEdgeBody", fn := fun _ => fun
  | [d] => { results := [.lit (.bool false)], args := [d] }
  | _ => none }
def FnExactEdgeBodyWrongFalsely : Prop := fnExactEdgeBodyRow.holds Try.pinned (OpenSpec.ofChange fnExactEdgeBodyWrong)

/-- 'laws.FnValuesFor': WHATEVER THE INPUT: true; the input reads as it did. -/
def fnValuesForSpec : ChangeSpec := { name := "fnValuesFor", fn := fun _ => fun
  | [d] => { results := [.lit (.bool true)], args := [d] }
  | _ => none }
def fnValuesForRow : OpenClaim := { program := "ytddhnngaopjjnaa", sum := "2c3ddb035aae6ef21a8e370a18ae4d6083ab29ea2781382a19c0aaeb60549ff4", func := "loop.example/graphcluster/laws.FnValuesFor", spec := "fnValuesFor", apart := false }
def FnValuesForSaid : Prop := fnValuesForRow.holds Try.pinned (OpenSpec.ofChange fnValuesForSpec)

/-- ITS FALSE NEIGHBOUR: 'it returns false'. Refute it at one input. -/
def fnValuesForWrong : ChangeSpec := { name := "fnValuesFor", fn := fun _ => fun
  | [d] => { results := [.lit (.bool false)], args := [d] }
  | _ => none }
def FnValuesForWrongFalsely : Prop := fnValuesForRow.holds Try.pinned (OpenSpec.ofChange fnValuesForWrong)

/-- 'laws.FnSortMessages': WHATEVER THE INPUT: true; the input reads as it did. -/
def fnSortMessagesSpec : ChangeSpec := { name := "fnSortMessages", fn := fun _ => fun
  | [d] => { results := [.lit (.bool true)], args := [d] }
  | _ => none }
def fnSortMessagesRow : OpenClaim := { program := "ytddhnngaopjjnaa", sum := "2c3ddb035aae6ef21a8e370a18ae4d6083ab29ea2781382a19c0aaeb60549ff4", func := "loop.example/graphcluster/laws.FnSortMessages", spec := "fnSortMessages", unfollowed := true, recurses := true, apart := false }
def FnSortMessagesSaid : Prop := fnSortMessagesRow.holds Try.pinned (OpenSpec.ofChange fnSortMessagesSpec)

/-- ITS FALSE NEIGHBOUR: 'it returns false'. Refute it at one input. -/
def fnSortMessagesWrong : ChangeSpec := { name := "fnSortMessages", fn := fun _ => fun
  | [d] => { results := [.lit (.bool false)], args := [d] }
  | _ => none }
def FnSortMessagesWrongFalsely : Prop := fnSortMessagesRow.holds Try.pinned (OpenSpec.ofChange fnSortMessagesWrong)

/-- 'laws.FnProgramValid': WHATEVER THE INPUT: true; the input reads as it did. -/
def fnProgramValidSpec : ChangeSpec := { name := "fnProgramValid", fn := fun _ => fun
  | [d] => { results := [.lit (.bool true)], args := [d] }
  | _ => none }
def fnProgramValidRow : OpenClaim := { program := "ytddhnngaopjjnaa", sum := "2c3ddb035aae6ef21a8e370a18ae4d6083ab29ea2781382a19c0aaeb60549ff4", func := "loop.example/graphcluster/laws.FnProgramValid", spec := "fnProgramValid", apart := false }
def FnProgramValidSaid : Prop := fnProgramValidRow.holds Try.pinned (OpenSpec.ofChange fnProgramValidSpec)

/-- ITS FALSE NEIGHBOUR: 'it returns false'. Refute it at one input. -/
def fnProgramValidWrong : ChangeSpec := { name := "fnProgramValid", fn := fun _ => fun
  | [d] => { results := [.lit (.bool false)], args := [d] }
  | _ => none }
def FnProgramValidWrongFalsely : Prop := fnProgramValidRow.holds Try.pinned (OpenSpec.ofChange fnProgramValidWrong)

/-- 'laws.FnMostFrequent': WHATEVER THE INPUT: true; the input reads as it did. -/
def fnMostFrequentSpec : ChangeSpec := { name := "fnMostFrequent", fn := fun _ => fun
  | [d] => { results := [.lit (.bool true)], args := [d] }
  | _ => none }
def fnMostFrequentRow : OpenClaim := { program := "ytddhnngaopjjnaa", sum := "2c3ddb035aae6ef21a8e370a18ae4d6083ab29ea2781382a19c0aaeb60549ff4", func := "loop.example/graphcluster/laws.FnMostFrequent", spec := "fnMostFrequent", apart := false }
def FnMostFrequentSaid : Prop := fnMostFrequentRow.holds Try.pinned (OpenSpec.ofChange fnMostFrequentSpec)

/-- ITS FALSE NEIGHBOUR: 'it returns false'. Refute it at one input. -/
def fnMostFrequentWrong : ChangeSpec := { name := "fnMostFrequent", fn := fun _ => fun
  | [d] => { results := [.lit (.bool false)], args := [d] }
  | _ => none }
def FnMostFrequentWrongFalsely : Prop := fnMostFrequentRow.holds Try.pinned (OpenSpec.ofChange fnMostFrequentWrong)

/-- 'laws.FnExactFrameOf': WHATEVER THE INPUT: true; the input reads as it did. -/
def fnExactFrameOfSpec : ChangeSpec := { name := "fnExactFrameOf", fn := fun _ => fun
  | [d] => { results := [.lit (.bool true)], args := [d] }
  | _ => none }
def fnExactFrameOfRow : OpenClaim := { program := "ytddhnngaopjjnaa", sum := "2c3ddb035aae6ef21a8e370a18ae4d6083ab29ea2781382a19c0aaeb60549ff4", func := "loop.example/graphcluster/laws.FnExactFrameOf", spec := "fnExactFrameOf", apart := false }
def FnExactFrameOfSaid : Prop := fnExactFrameOfRow.holds Try.pinned (OpenSpec.ofChange fnExactFrameOfSpec)

/-- ITS FALSE NEIGHBOUR: 'it returns false'. Refute it at one input. -/
def fnExactFrameOfWrong : ChangeSpec := { name := "fnExactFrameOf", fn := fun _ => fun
  | [d] => { results := [.lit (.bool false)], args := [d] }
  | _ => none }
def FnExactFrameOfWrongFalsely : Prop := fnExactFrameOfRow.holds Try.pinned (OpenSpec.ofChange fnExactFrameOfWrong)

/-- 'laws.FnExactValuesFor': WHATEVER THE INPUT: true; the input reads as it did. -/
def fnExactValuesForSpec : ChangeSpec := { name := "fnExactValuesFor", fn := fun _ => fun
  | [d1, d2] => { results := [.lit (.bool true)], args := [d1, d2] }
  | _ => none }
def fnExactValuesForRow : OpenClaim := { program := "ytddhnngaopjjnaa", sum := "2c3ddb035aae6ef21a8e370a18ae4d6083ab29ea2781382a19c0aaeb60549ff4", func := "loop.example/graphcluster/laws.FnExactValuesFor", spec := "fnExactValuesFor", apart := false }
def FnExactValuesForSaid : Prop := fnExactValuesForRow.holds Try.pinned (OpenSpec.ofChange fnExactValuesForSpec)

/-- ITS FALSE NEIGHBOUR: 'it returns false'. Refute it at one input. -/
def fnExactValuesForWrong : ChangeSpec := { name := "fnExactValuesFor", fn := fun _ => fun
  | [d1, d2] => { results := [.lit (.bool false)], args := [d1, d2] }
  | _ => none }
def FnExactValuesForWrongFalsely : Prop := fnExactValuesForRow.holds Try.pinned (OpenSpec.ofChange fnExactValuesForWrong)

/-- 'laws.FnOwnedBy': WHATEVER THE INPUT: true; the input reads as it did. -/
def fnOwnedBySpec : ChangeSpec := { name := "fnOwnedBy", fn := fun _ => fun
  | [d] => { results := [.lit (.bool true)], args := [d] }
  | _ => none }
def fnOwnedByRow : OpenClaim := { program := "ytddhnngaopjjnaa", sum := "2c3ddb035aae6ef21a8e370a18ae4d6083ab29ea2781382a19c0aaeb60549ff4", func := "loop.example/graphcluster/laws.FnOwnedBy", spec := "fnOwnedBy", apart := false }
def FnOwnedBySaid : Prop := fnOwnedByRow.holds Try.pinned (OpenSpec.ofChange fnOwnedBySpec)

/-- ITS FALSE NEIGHBOUR: 'it returns false'. Refute it at one input. -/
def fnOwnedByWrong : ChangeSpec := { name := "fnOwnedBy", fn := fun _ => fun
  | [d] => { results := [.lit (.bool false)], args := [d] }
  | _ => none }
def FnOwnedByWrongFalsely : Prop := fnOwnedByRow.holds Try.pinned (OpenSpec.ofChange fnOwnedByWrong)

/-- 'laws.FnExactReadFrame': WHATEVER THE INPUT: true; the input reads as it did. -/
def fnExactReadFrameSpec : ChangeSpec := { name := "fnExactReadFrame", fn := fun _ => fun
  | [d1, d2] => { results := [.lit (.bool true)], args := [d1, d2] }
  | _ => none }
def fnExactReadFrameRow : OpenClaim := { program := "ytddhnngaopjjnaa", sum := "2c3ddb035aae6ef21a8e370a18ae4d6083ab29ea2781382a19c0aaeb60549ff4", func := "loop.example/graphcluster/laws.FnExactReadFrame", spec := "fnExactReadFrame", apart := false }
def FnExactReadFrameSaid : Prop := fnExactReadFrameRow.holds Try.pinned (OpenSpec.ofChange fnExactReadFrameSpec)

/-- ITS FALSE NEIGHBOUR: 'it returns false'. Refute it at one input. -/
def fnExactReadFrameWrong : ChangeSpec := { name := "fnExactReadFrame", fn := fun _ => fun
  | [d1, d2] => { results := [.lit (.bool false)], args := [d1, d2] }
  | _ => none }
def FnExactReadFrameWrongFalsely : Prop := fnExactReadFrameRow.holds Try.pinned (OpenSpec.ofChange fnExactReadFrameWrong)

/-- 'laws.FnDiskValid': WHATEVER THE INPUT: true; the input reads as it did. -/
def fnDiskValidSpec : ChangeSpec := { name := "fnDiskValid", fn := fun _ => fun
  | [d] => { results := [.lit (.bool true)], args := [d] }
  | _ => none }
def fnDiskValidRow : OpenClaim := { program := "ytddhnngaopjjnaa", sum := "2c3ddb035aae6ef21a8e370a18ae4d6083ab29ea2781382a19c0aaeb60549ff4", func := "loop.example/graphcluster/laws.FnDiskValid", spec := "fnDiskValid", apart := false }
def FnDiskValidSaid : Prop := fnDiskValidRow.holds Try.pinned (OpenSpec.ofChange fnDiskValidSpec)

/-- ITS FALSE NEIGHBOUR: 'it returns false'. Refute it at one input. -/
def fnDiskValidWrong : ChangeSpec := { name := "fnDiskValid", fn := fun _ => fun
  | [d] => { results := [.lit (.bool false)], args := [d] }
  | _ => none }
def FnDiskValidWrongFalsely : Prop := fnDiskValidRow.holds Try.pinned (OpenSpec.ofChange fnDiskValidWrong)

/-- 'laws.FnExactSortMessages': WHATEVER THE INPUT: true; the input reads as it did. -/
def fnExactSortMessagesSpec : ChangeSpec := { name := "fnExactSortMessages", fn := fun _ => fun
  | [d] => { results := [.lit (.bool true)], args := [d] }
  | _ => none }
def fnExactSortMessagesRow : OpenClaim := { program := "ytddhnngaopjjnaa", sum := "2c3ddb035aae6ef21a8e370a18ae4d6083ab29ea2781382a19c0aaeb60549ff4", func := "loop.example/graphcluster/laws.FnExactSortMessages", spec := "fnExactSortMessages", unfollowed := true, recurses := true, apart := false }
def FnExactSortMessagesSaid : Prop := fnExactSortMessagesRow.holds Try.pinned (OpenSpec.ofChange fnExactSortMessagesSpec)

/-- ITS FALSE NEIGHBOUR: 'it returns false'. Refute it at one input. -/
def fnExactSortMessagesWrong : ChangeSpec := { name := "fnExactSortMessages", fn := fun _ => fun
  | [d] => { results := [.lit (.bool false)], args := [d] }
  | _ => none }
def FnExactSortMessagesWrongFalsely : Prop := fnExactSortMessagesRow.holds Try.pinned (OpenSpec.ofChange fnExactSortMessagesWrong)

/- THE SECOND FORM. 'bulk': how many values and letters a reading holds, each counted each time it is reached (what is shared counts as often as it is met; a slice's spare places count too). A statement '..UptoSaid' is the law's where the arguments, and the package variables that the reading takes, are together of bulk at most 1048576: NARROWER than '..Said'. Prove '..Said' where nothing that the law and all that it calls make is longer than what came in: it says more and counts as full. Else prove '..UptoSaid'. A law counts once. -/
mutual
def uptoBulk {H : Type} : DataW H → Nat
  | .lit (.string bytes) => bytes.length + 1
  | .lit _ => 1
  | .nil => 1
  | .ptr d => uptoBulk d + 1
  | .slice elems spare => uptoBulkAll elems + uptoBulkAll spare + 1
  | .agg parts => uptoBulkAll parts + 1
  | .iface _ d => uptoBulk d + 1
  | .map entries => uptoBulkEntries entries + 1
  | .held _ => 1
def uptoBulkAll {H : Type} : List (DataW H) → Nat
  | [] => 0
  | d :: r => uptoBulk d + uptoBulkAll r
def uptoBulkEntries {H : Type} : List (Lit × DataW H) → Nat
  | [] => 0
  | x :: r => uptoBulkEntry x + uptoBulkEntries r
def uptoBulkEntry {H : Type} : Lit × DataW H → Nat
  | (.string bytes, d) => bytes.length + uptoBulk d + 1
  | (_, d) => uptoBulk d + 1
 end
def uptoSmall : (H : Type) → List (DataW H) → Bool := fun _ ds => decide (uptoBulkAll ds ≤ 1048576)
def OpenSpec.upto (s : _root_.Go.ChangeSpec) : _root_.Go.OpenSpec := { _root_.Go.OpenSpec.ofChange s with cond := some uptoSmall }

/-- 'laws.FnCheckSum', WHERE WHAT IT READS IS OF BULK AT MOST 1048576: true; the input reads as it did. -/
def fnCheckSumUptoRow : OpenClaim := { program := "ytddhnngaopjjnaa", sum := "2c3ddb035aae6ef21a8e370a18ae4d6083ab29ea2781382a19c0aaeb60549ff4", func := "loop.example/graphcluster/laws.FnCheckSum", spec := "fnCheckSum", apart := false, narrowed := true }
def FnCheckSumUptoSaid : Prop := fnCheckSumUptoRow.holds Try.pinned (OpenSpec.upto fnCheckSumSpec)

/-- 'laws.FnExactEdgeBody', WHERE WHAT IT READS IS OF BULK AT MOST 1048576: true; the input reads as it did. -/
def fnExactEdgeBodyUptoRow : OpenClaim := { program := "ytddhnngaopjjnaa", sum := "2c3ddb035aae6ef21a8e370a18ae4d6083ab29ea2781382a19c0aaeb60549ff4", func := "loop.example/graphcluster/laws.FnExactEdgeBody", spec := "fnExactEdgeBody", apart := false, narrowed := true }
def FnExactEdgeBodyUptoSaid : Prop := fnExactEdgeBodyUptoRow.holds Try.pinned (OpenSpec.upto fnExactEdgeBodySpec)

/-- 'laws.FnValuesFor', WHERE WHAT IT READS IS OF BULK AT MOST 1048576: true; the input reads as it did. -/
def fnValuesForUptoRow : OpenClaim := { program := "ytddhnngaopjjnaa", sum := "2c3ddb035aae6ef21a8e370a18ae4d6083ab29ea2781382a19c0aaeb60549ff4", func := "loop.example/graphcluster/laws.FnValuesFor", spec := "fnValuesFor", apart := false, narrowed := true }
def FnValuesForUptoSaid : Prop := fnValuesForUptoRow.holds Try.pinned (OpenSpec.upto fnValuesForSpec)

/-- 'laws.FnSortMessages', WHERE WHAT IT READS IS OF BULK AT MOST 1048576: true; the input reads as it did. -/
def fnSortMessagesUptoRow : OpenClaim := { program := "ytddhnngaopjjnaa", sum := "2c3ddb035aae6ef21a8e370a18ae4d6083ab29ea2781382a19c0aaeb60549ff4", func := "loop.example/graphcluster/laws.FnSortMessages", spec := "fnSortMessages", unfollowed := true, recurses := true, apart := false, narrowed := true }
def FnSortMessagesUptoSaid : Prop := fnSortMessagesUptoRow.holds Try.pinned (OpenSpec.upto fnSortMessagesSpec)

/-- 'laws.FnProgramValid', WHERE WHAT IT READS IS OF BULK AT MOST 1048576: true; the input reads as it did. -/
def fnProgramValidUptoRow : OpenClaim := { program := "ytddhnngaopjjnaa", sum := "2c3ddb035aae6ef21a8e370a18ae4d6083ab29ea2781382a19c0aaeb60549ff4", func := "loop.example/graphcluster/laws.FnProgramValid", spec := "fnProgramValid", apart := false, narrowed := true }
def FnProgramValidUptoSaid : Prop := fnProgramValidUptoRow.holds Try.pinned (OpenSpec.upto fnProgramValidSpec)

/-- 'laws.FnMostFrequent', WHERE WHAT IT READS IS OF BULK AT MOST 1048576: true; the input reads as it did. -/
def fnMostFrequentUptoRow : OpenClaim := { program := "ytddhnngaopjjnaa", sum := "2c3ddb035aae6ef21a8e370a18ae4d6083ab29ea2781382a19c0aaeb60549ff4", func := "loop.example/graphcluster/laws.FnMostFrequent", spec := "fnMostFrequent", apart := false, narrowed := true }
def FnMostFrequentUptoSaid : Prop := fnMostFrequentUptoRow.holds Try.pinned (OpenSpec.upto fnMostFrequentSpec)

/-- 'laws.FnExactFrameOf', WHERE WHAT IT READS IS OF BULK AT MOST 1048576: true; the input reads as it did. -/
def fnExactFrameOfUptoRow : OpenClaim := { program := "ytddhnngaopjjnaa", sum := "2c3ddb035aae6ef21a8e370a18ae4d6083ab29ea2781382a19c0aaeb60549ff4", func := "loop.example/graphcluster/laws.FnExactFrameOf", spec := "fnExactFrameOf", apart := false, narrowed := true }
def FnExactFrameOfUptoSaid : Prop := fnExactFrameOfUptoRow.holds Try.pinned (OpenSpec.upto fnExactFrameOfSpec)

/-- 'laws.FnExactValuesFor', WHERE WHAT IT READS IS OF BULK AT MOST 1048576: true; the input reads as it did. -/
def fnExactValuesForUptoRow : OpenClaim := { program := "ytddhnngaopjjnaa", sum := "2c3ddb035aae6ef21a8e370a18ae4d6083ab29ea2781382a19c0aaeb60549ff4", func := "loop.example/graphcluster/laws.FnExactValuesFor", spec := "fnExactValuesFor", apart := false, narrowed := true }
def FnExactValuesForUptoSaid : Prop := fnExactValuesForUptoRow.holds Try.pinned (OpenSpec.upto fnExactValuesForSpec)

/-- 'laws.FnOwnedBy', WHERE WHAT IT READS IS OF BULK AT MOST 1048576: true; the input reads as it did. -/
def fnOwnedByUptoRow : OpenClaim := { program := "ytddhnngaopjjnaa", sum := "2c3ddb035aae6ef21a8e370a18ae4d6083ab29ea2781382a19c0aaeb60549ff4", func := "loop.example/graphcluster/laws.FnOwnedBy", spec := "fnOwnedBy", apart := false, narrowed := true }
def FnOwnedByUptoSaid : Prop := fnOwnedByUptoRow.holds Try.pinned (OpenSpec.upto fnOwnedBySpec)

/-- 'laws.FnExactReadFrame', WHERE WHAT IT READS IS OF BULK AT MOST 1048576: true; the input reads as it did. -/
def fnExactReadFrameUptoRow : OpenClaim := { program := "ytddhnngaopjjnaa", sum := "2c3ddb035aae6ef21a8e370a18ae4d6083ab29ea2781382a19c0aaeb60549ff4", func := "loop.example/graphcluster/laws.FnExactReadFrame", spec := "fnExactReadFrame", apart := false, narrowed := true }
def FnExactReadFrameUptoSaid : Prop := fnExactReadFrameUptoRow.holds Try.pinned (OpenSpec.upto fnExactReadFrameSpec)

/-- 'laws.FnDiskValid', WHERE WHAT IT READS IS OF BULK AT MOST 1048576: true; the input reads as it did. -/
def fnDiskValidUptoRow : OpenClaim := { program := "ytddhnngaopjjnaa", sum := "2c3ddb035aae6ef21a8e370a18ae4d6083ab29ea2781382a19c0aaeb60549ff4", func := "loop.example/graphcluster/laws.FnDiskValid", spec := "fnDiskValid", apart := false, narrowed := true }
def FnDiskValidUptoSaid : Prop := fnDiskValidUptoRow.holds Try.pinned (OpenSpec.upto fnDiskValidSpec)

/-- 'laws.FnExactSortMessages', WHERE WHAT IT READS IS OF BULK AT MOST 1048576: true; the input reads as it did. -/
def fnExactSortMessagesUptoRow : OpenClaim := { program := "ytddhnngaopjjnaa", sum := "2c3ddb035aae6ef21a8e370a18ae4d6083ab29ea2781382a19c0aaeb60549ff4", func := "loop.example/graphcluster/laws.FnExactSortMessages", spec := "fnExactSortMessages", unfollowed := true, recurses := true, apart := false, narrowed := true }
def FnExactSortMessagesUptoSaid : Prop := fnExactSortMessagesUptoRow.holds Try.pinned (OpenSpec.upto fnExactSortMessagesSpec)

end Rows
end Go.Proofs.Ytddhnngaopjjnaa
