/-
  No cell of these rows narrows 'for every input' (looked for: loops, veiled, ifaces, maps, wideKeys, modest, calm, conditions, laid).
  DERIVED. THE GIVEN ROWS OF THIS SEAT. 13 by the template 'for every input the law returns true; each argument reads behind the call as it read before'; 0 by the template 'total and deterministic' (their statements: YtdflpildopefaaaTotals.lean).
  GIVEN WITH THE SEED: the statements are not yours to turn. If you find one false, say at which input.
  Laid BY PROGRAM, IN A SANDBOX (cutbox-rows.mjs): the forced cells as the released guide's own fill.sh prints them over the translation f043063f078d43c8… (all of the seat's roots in one cut). By AI agents, Wed Nov 11 2026. No macro, syntax, notation, axiom, sorry.
-/
import Derived.Test.YtdflpildopefaaaChecked
import GoSem.Claim
import GoSem.ClaimJoined
import GoSem.ClaimMapViews
import Derived.JoinedTies
import Derived.KernelRfl
namespace Go.Proofs.Ytdflpildopefaaa
/- THE CELL 'sum', in the pinned program and in every row, IS THE sha256 OF THE DUMP (.gsa) THAT YtdflpildopefaaaProg.lean LOADS. Nothing in Lean hashes anything: it is a label: what it is worth is what the hold of that sum in a sandbox is worth. -/
noncomputable def Try.pinned : Pinned := { name := "ytdflpildopefaaa", sum := "f043063f078d43c8029c9aa5ef24e0028c42e446360258ce735259d13be359bd", checked := Try.checked }
namespace Rows
def none {H : Type} : Left H := { results := [], args := [] }

/-- 'laws.FnDiskValid': WHATEVER THE INPUT: true; the input reads as it did. -/
def fnDiskValidSpec : ChangeSpec := { name := "fnDiskValid", fn := fun _ => fun
  | [d] => { results := [.lit (.bool true)], args := [d] }
  | _ => none }
def fnDiskValidRow : OpenClaim := { program := "ytdflpildopefaaa", sum := "f043063f078d43c8029c9aa5ef24e0028c42e446360258ce735259d13be359bd", func := "loop.example/graphcluster/laws.FnDiskValid", spec := "fnDiskValid", apart := false }
def FnDiskValidSaid : Prop := fnDiskValidRow.holds Try.pinned (OpenSpec.ofChange fnDiskValidSpec)

/-- ITS FALSE NEIGHBOUR: 'it returns false'. Refute it at one input. -/
def fnDiskValidWrong : ChangeSpec := { name := "fnDiskValid", fn := fun _ => fun
  | [d] => { results := [.lit (.bool false)], args := [d] }
  | _ => none }
def FnDiskValidWrongFalsely : Prop := fnDiskValidRow.holds Try.pinned (OpenSpec.ofChange fnDiskValidWrong)

/-- 'laws.FnFramesJoin': WHATEVER THE INPUT: true; the input reads as it did. -/
def fnFramesJoinSpec : ChangeSpec := { name := "fnFramesJoin", fn := fun _ => fun
  | [d1, d2] => { results := [.lit (.bool true)], args := [d1, d2] }
  | _ => none }
def fnFramesJoinRow : OpenClaim := { program := "ytdflpildopefaaa", sum := "f043063f078d43c8029c9aa5ef24e0028c42e446360258ce735259d13be359bd", func := "loop.example/graphcluster/laws.FnFramesJoin", spec := "fnFramesJoin", apart := false }
def FnFramesJoinSaid : Prop := fnFramesJoinRow.holds Try.pinned (OpenSpec.ofChange fnFramesJoinSpec)

/-- ITS FALSE NEIGHBOUR: 'it returns false'. Refute it at one input. -/
def fnFramesJoinWrong : ChangeSpec := { name := "fnFramesJoin", fn := fun _ => fun
  | [d1, d2] => { results := [.lit (.bool false)], args := [d1, d2] }
  | _ => none }
def FnFramesJoinWrongFalsely : Prop := fnFramesJoinRow.holds Try.pinned (OpenSpec.ofChange fnFramesJoinWrong)

/-- 'laws.FnExactJoinFrames': WHATEVER THE INPUT: true; the input reads as it did. -/
def fnExactJoinFramesSpec : ChangeSpec := { name := "fnExactJoinFrames", fn := fun _ => fun
  | [d] => { results := [.lit (.bool true)], args := [d] }
  | _ => none }
def fnExactJoinFramesRow : OpenClaim := { program := "ytdflpildopefaaa", sum := "f043063f078d43c8029c9aa5ef24e0028c42e446360258ce735259d13be359bd", func := "loop.example/graphcluster/laws.FnExactJoinFrames", spec := "fnExactJoinFrames", apart := false }
def FnExactJoinFramesSaid : Prop := fnExactJoinFramesRow.holds Try.pinned (OpenSpec.ofChange fnExactJoinFramesSpec)

/-- ITS FALSE NEIGHBOUR: 'it returns false'. Refute it at one input. -/
def fnExactJoinFramesWrong : ChangeSpec := { name := "fnExactJoinFrames", fn := fun _ => fun
  | [d] => { results := [.lit (.bool false)], args := [d] }
  | _ => none }
def FnExactJoinFramesWrongFalsely : Prop := fnExactJoinFramesRow.holds Try.pinned (OpenSpec.ofChange fnExactJoinFramesWrong)

/-- 'laws.FnExactScanFrames': WHATEVER THE INPUT: true; the input reads as it did. -/
def fnExactScanFramesSpec : ChangeSpec := { name := "fnExactScanFrames", fn := fun _ => fun
  | [d] => { results := [.lit (.bool true)], args := [d] }
  | _ => none }
def fnExactScanFramesRow : OpenClaim := { program := "ytdflpildopefaaa", sum := "f043063f078d43c8029c9aa5ef24e0028c42e446360258ce735259d13be359bd", func := "loop.example/graphcluster/laws.FnExactScanFrames", spec := "fnExactScanFrames", unfollowed := true, recurses := true, apart := false }
def FnExactScanFramesSaid : Prop := fnExactScanFramesRow.holds Try.pinned (OpenSpec.ofChange fnExactScanFramesSpec)

/-- ITS FALSE NEIGHBOUR: 'it returns false'. Refute it at one input. -/
def fnExactScanFramesWrong : ChangeSpec := { name := "fnExactScanFrames", fn := fun _ => fun
  | [d] => { results := [.lit (.bool false)], args := [d] }
  | _ => none }
def FnExactScanFramesWrongFalsely : Prop := fnExactScanFramesRow.holds Try.pinned (OpenSpec.ofChange fnExactScanFramesWrong)

/-- 'laws.FnReadFrame': WHATEVER THE INPUT: true; the input reads as it did. -/
def fnReadFrameSpec : ChangeSpec := { name := "fnReadFrame", fn := fun _ => fun
  | [d] => { results := [.lit (.bool true)], args := [d] }
  | _ => none }
def fnReadFrameRow : OpenClaim := { program := "ytdflpildopefaaa", sum := "f043063f078d43c8029c9aa5ef24e0028c42e446360258ce735259d13be359bd", func := "loop.example/graphcluster/laws.FnReadFrame", spec := "fnReadFrame", apart := false }
def FnReadFrameSaid : Prop := fnReadFrameRow.holds Try.pinned (OpenSpec.ofChange fnReadFrameSpec)

/-- ITS FALSE NEIGHBOUR: 'it returns false'. Refute it at one input. -/
def fnReadFrameWrong : ChangeSpec := { name := "fnReadFrame", fn := fun _ => fun
  | [d] => { results := [.lit (.bool false)], args := [d] }
  | _ => none }
def FnReadFrameWrongFalsely : Prop := fnReadFrameRow.holds Try.pinned (OpenSpec.ofChange fnReadFrameWrong)

/-- 'laws.FnDiskCrash': WHATEVER THE INPUT: true; the input reads as it did. -/
def fnDiskCrashSpec : ChangeSpec := { name := "fnDiskCrash", fn := fun _ => fun
  | [d] => { results := [.lit (.bool true)], args := [d] }
  | _ => none }
def fnDiskCrashRow : OpenClaim := { program := "ytdflpildopefaaa", sum := "f043063f078d43c8029c9aa5ef24e0028c42e446360258ce735259d13be359bd", func := "loop.example/graphcluster/laws.FnDiskCrash", spec := "fnDiskCrash", apart := false }
def FnDiskCrashSaid : Prop := fnDiskCrashRow.holds Try.pinned (OpenSpec.ofChange fnDiskCrashSpec)

/-- ITS FALSE NEIGHBOUR: 'it returns false'. Refute it at one input. -/
def fnDiskCrashWrong : ChangeSpec := { name := "fnDiskCrash", fn := fun _ => fun
  | [d] => { results := [.lit (.bool false)], args := [d] }
  | _ => none }
def FnDiskCrashWrongFalsely : Prop := fnDiskCrashRow.holds Try.pinned (OpenSpec.ofChange fnDiskCrashWrong)

/-- 'laws.FnJoinFrames': WHATEVER THE INPUT: true; the input reads as it did. -/
def fnJoinFramesSpec : ChangeSpec := { name := "fnJoinFrames", fn := fun _ => fun
  | [d] => { results := [.lit (.bool true)], args := [d] }
  | _ => none }
def fnJoinFramesRow : OpenClaim := { program := "ytdflpildopefaaa", sum := "f043063f078d43c8029c9aa5ef24e0028c42e446360258ce735259d13be359bd", func := "loop.example/graphcluster/laws.FnJoinFrames", spec := "fnJoinFrames", unfollowed := true, recurses := true, apart := false }
def FnJoinFramesSaid : Prop := fnJoinFramesRow.holds Try.pinned (OpenSpec.ofChange fnJoinFramesSpec)

/-- ITS FALSE NEIGHBOUR: 'it returns false'. Refute it at one input. -/
def fnJoinFramesWrong : ChangeSpec := { name := "fnJoinFrames", fn := fun _ => fun
  | [d] => { results := [.lit (.bool false)], args := [d] }
  | _ => none }
def FnJoinFramesWrongFalsely : Prop := fnJoinFramesRow.holds Try.pinned (OpenSpec.ofChange fnJoinFramesWrong)

/-- 'laws.FnExactDiskRepair': WHATEVER THE INPUT: true; the input reads as it did. -/
def fnExactDiskRepairSpec : ChangeSpec := { name := "fnExactDiskRepair", fn := fun _ => fun
  | [d] => { results := [.lit (.bool true)], args := [d] }
  | _ => none }
def fnExactDiskRepairRow : OpenClaim := { program := "ytdflpildopefaaa", sum := "f043063f078d43c8029c9aa5ef24e0028c42e446360258ce735259d13be359bd", func := "loop.example/graphcluster/laws.FnExactDiskRepair", spec := "fnExactDiskRepair", unfollowed := true, recurses := true, apart := false }
def FnExactDiskRepairSaid : Prop := fnExactDiskRepairRow.holds Try.pinned (OpenSpec.ofChange fnExactDiskRepairSpec)

/-- ITS FALSE NEIGHBOUR: 'it returns false'. Refute it at one input. -/
def fnExactDiskRepairWrong : ChangeSpec := { name := "fnExactDiskRepair", fn := fun _ => fun
  | [d] => { results := [.lit (.bool false)], args := [d] }
  | _ => none }
def FnExactDiskRepairWrongFalsely : Prop := fnExactDiskRepairRow.holds Try.pinned (OpenSpec.ofChange fnExactDiskRepairWrong)

/-- 'laws.FnScanFrames': WHATEVER THE INPUT: true; the input reads as it did. -/
def fnScanFramesSpec : ChangeSpec := { name := "fnScanFrames", fn := fun _ => fun
  | [d] => { results := [.lit (.bool true)], args := [d] }
  | _ => none }
def fnScanFramesRow : OpenClaim := { program := "ytdflpildopefaaa", sum := "f043063f078d43c8029c9aa5ef24e0028c42e446360258ce735259d13be359bd", func := "loop.example/graphcluster/laws.FnScanFrames", spec := "fnScanFrames", unfollowed := true, recurses := true, apart := false }
def FnScanFramesSaid : Prop := fnScanFramesRow.holds Try.pinned (OpenSpec.ofChange fnScanFramesSpec)

/-- ITS FALSE NEIGHBOUR: 'it returns false'. Refute it at one input. -/
def fnScanFramesWrong : ChangeSpec := { name := "fnScanFrames", fn := fun _ => fun
  | [d] => { results := [.lit (.bool false)], args := [d] }
  | _ => none }
def FnScanFramesWrongFalsely : Prop := fnScanFramesRow.holds Try.pinned (OpenSpec.ofChange fnScanFramesWrong)

/-- 'laws.FnDiskSync': WHATEVER THE INPUT: true; the input reads as it did. -/
def fnDiskSyncSpec : ChangeSpec := { name := "fnDiskSync", fn := fun _ => fun
  | [d] => { results := [.lit (.bool true)], args := [d] }
  | _ => none }
def fnDiskSyncRow : OpenClaim := { program := "ytdflpildopefaaa", sum := "f043063f078d43c8029c9aa5ef24e0028c42e446360258ce735259d13be359bd", func := "loop.example/graphcluster/laws.FnDiskSync", spec := "fnDiskSync", unfollowed := true, recurses := true, apart := false }
def FnDiskSyncSaid : Prop := fnDiskSyncRow.holds Try.pinned (OpenSpec.ofChange fnDiskSyncSpec)

/-- ITS FALSE NEIGHBOUR: 'it returns false'. Refute it at one input. -/
def fnDiskSyncWrong : ChangeSpec := { name := "fnDiskSync", fn := fun _ => fun
  | [d] => { results := [.lit (.bool false)], args := [d] }
  | _ => none }
def FnDiskSyncWrongFalsely : Prop := fnDiskSyncRow.holds Try.pinned (OpenSpec.ofChange fnDiskSyncWrong)

/-- 'laws.FnExactDiskRecords': WHATEVER THE INPUT: true; the input reads as it did. -/
def fnExactDiskRecordsSpec : ChangeSpec := { name := "fnExactDiskRecords", fn := fun _ => fun
  | [d] => { results := [.lit (.bool true)], args := [d] }
  | _ => none }
def fnExactDiskRecordsRow : OpenClaim := { program := "ytdflpildopefaaa", sum := "f043063f078d43c8029c9aa5ef24e0028c42e446360258ce735259d13be359bd", func := "loop.example/graphcluster/laws.FnExactDiskRecords", spec := "fnExactDiskRecords", unfollowed := true, recurses := true, apart := false }
def FnExactDiskRecordsSaid : Prop := fnExactDiskRecordsRow.holds Try.pinned (OpenSpec.ofChange fnExactDiskRecordsSpec)

/-- ITS FALSE NEIGHBOUR: 'it returns false'. Refute it at one input. -/
def fnExactDiskRecordsWrong : ChangeSpec := { name := "fnExactDiskRecords", fn := fun _ => fun
  | [d] => { results := [.lit (.bool false)], args := [d] }
  | _ => none }
def FnExactDiskRecordsWrongFalsely : Prop := fnExactDiskRecordsRow.holds Try.pinned (OpenSpec.ofChange fnExactDiskRecordsWrong)

/-- 'laws.FnDiskRepair': WHATEVER THE INPUT: true; the input reads as it did. -/
def fnDiskRepairSpec : ChangeSpec := { name := "fnDiskRepair", fn := fun _ => fun
  | [d] => { results := [.lit (.bool true)], args := [d] }
  | _ => none }
def fnDiskRepairRow : OpenClaim := { program := "ytdflpildopefaaa", sum := "f043063f078d43c8029c9aa5ef24e0028c42e446360258ce735259d13be359bd", func := "loop.example/graphcluster/laws.FnDiskRepair", spec := "fnDiskRepair", unfollowed := true, recurses := true, apart := false }
def FnDiskRepairSaid : Prop := fnDiskRepairRow.holds Try.pinned (OpenSpec.ofChange fnDiskRepairSpec)

/-- ITS FALSE NEIGHBOUR: 'it returns false'. Refute it at one input. -/
def fnDiskRepairWrong : ChangeSpec := { name := "fnDiskRepair", fn := fun _ => fun
  | [d] => { results := [.lit (.bool false)], args := [d] }
  | _ => none }
def FnDiskRepairWrongFalsely : Prop := fnDiskRepairRow.holds Try.pinned (OpenSpec.ofChange fnDiskRepairWrong)

/-- 'laws.FnDiskRecords': WHATEVER THE INPUT: true; the input reads as it did. -/
def fnDiskRecordsSpec : ChangeSpec := { name := "fnDiskRecords", fn := fun _ => fun
  | [d] => { results := [.lit (.bool true)], args := [d] }
  | _ => none }
def fnDiskRecordsRow : OpenClaim := { program := "ytdflpildopefaaa", sum := "f043063f078d43c8029c9aa5ef24e0028c42e446360258ce735259d13be359bd", func := "loop.example/graphcluster/laws.FnDiskRecords", spec := "fnDiskRecords", unfollowed := true, recurses := true, apart := false }
def FnDiskRecordsSaid : Prop := fnDiskRecordsRow.holds Try.pinned (OpenSpec.ofChange fnDiskRecordsSpec)

/-- ITS FALSE NEIGHBOUR: 'it returns false'. Refute it at one input. -/
def fnDiskRecordsWrong : ChangeSpec := { name := "fnDiskRecords", fn := fun _ => fun
  | [d] => { results := [.lit (.bool false)], args := [d] }
  | _ => none }
def FnDiskRecordsWrongFalsely : Prop := fnDiskRecordsRow.holds Try.pinned (OpenSpec.ofChange fnDiskRecordsWrong)

/- THE SECOND FORM. 'bulk': how many values and letters a reading holds, each counted each time it is reached (what is shared counts as often as it is met; a slice's spare places count too). A statement '..UptoSaid' is the law's where the arguments, and the package variables that the reading takes, are together of bulk at most 1048576: NARROWER than '..Said'. Prove '..Said' where nothing that the law and all that it calls make is longer than what came in: it says more and counts as full. Else prove '..UptoSaid'. A law counts once. -/
mutual
def uptoBulk {H : Type} : DataW H → Nat
  | .lit (.string bytes) => bytes.length + 1
  | .lit _ => 1
  | .nil => 1
  | .ptr d => uptoBulk d + 1
  | .slice elems spare => uptoBulkAll elems + uptoBulkAll spare + 1
  | .agg parts => uptoBulkAll parts + 1
  | .iface _ d => uptoBulk d + 1
  | .map entries => uptoBulkEntries entries + 1
  | .held _ => 1
def uptoBulkAll {H : Type} : List (DataW H) → Nat
  | [] => 0
  | d :: r => uptoBulk d + uptoBulkAll r
def uptoBulkEntries {H : Type} : List (Lit × DataW H) → Nat
  | [] => 0
  | x :: r => uptoBulkEntry x + uptoBulkEntries r
def uptoBulkEntry {H : Type} : Lit × DataW H → Nat
  | (.string bytes, d) => bytes.length + uptoBulk d + 1
  | (_, d) => uptoBulk d + 1
 end
def uptoSmall : (H : Type) → List (DataW H) → Bool := fun _ ds => decide (uptoBulkAll ds ≤ 1048576)
def OpenSpec.upto (s : _root_.Go.ChangeSpec) : _root_.Go.OpenSpec := { _root_.Go.OpenSpec.ofChange s with cond := some uptoSmall }

/-- 'laws.FnDiskValid', WHERE WHAT IT READS IS OF BULK AT MOST 1048576: true; the input reads as it did. -/
def fnDiskValidUptoRow : OpenClaim := { program := "ytdflpildopefaaa", sum := "f043063f078d43c8029c9aa5ef24e0028c42e446360258ce735259d13be359bd", func := "loop.example/graphcluster/laws.FnDiskValid", spec := "fnDiskValid", apart := false, narrowed := true }
def FnDiskValidUptoSaid : Prop := fnDiskValidUptoRow.holds Try.pinned (OpenSpec.upto fnDiskValidSpec)

/-- 'laws.FnFramesJoin', WHERE WHAT IT READS IS OF BULK AT MOST 1048576: true; the input reads as it did. -/
def fnFramesJoinUptoRow : OpenClaim := { program := "ytdflpildopefaaa", sum := "f043063f078d43c8029c9aa5ef24e0028c42e446360258ce735259d13be359bd", func := "loop.example/graphcluster/laws.FnFramesJoin", spec := "fnFramesJoin", apart := false, narrowed := true }
def FnFramesJoinUptoSaid : Prop := fnFramesJoinUptoRow.holds Try.pinned (OpenSpec.upto fnFramesJoinSpec)

/-- 'laws.FnExactJoinFrames', WHERE WHAT IT READS IS OF BULK AT MOST 1048576: true; the input reads as it did. -/
def fnExactJoinFramesUptoRow : OpenClaim := { program := "ytdflpildopefaaa", sum := "f043063f078d43c8029c9aa5ef24e0028c42e446360258ce735259d13be359bd", func := "loop.example/graphcluster/laws.FnExactJoinFrames", spec := "fnExactJoinFrames", apart := false, narrowed := true }
def FnExactJoinFramesUptoSaid : Prop := fnExactJoinFramesUptoRow.holds Try.pinned (OpenSpec.upto fnExactJoinFramesSpec)

/-- 'laws.FnExactScanFrames', WHERE WHAT IT READS IS OF BULK AT MOST 1048576: true; the input reads as it did. -/
def fnExactScanFramesUptoRow : OpenClaim := { program := "ytdflpildopefaaa", sum := "f043063f078d43c8029c9aa5ef24e0028c42e446360258ce735259d13be359bd", func := "loop.example/graphcluster/laws.FnExactScanFrames", spec := "fnExactScanFrames", unfollowed := true, recurses := true, apart := false, narrowed := true }
def FnExactScanFramesUptoSaid : Prop := fnExactScanFramesUptoRow.holds Try.pinned (OpenSpec.upto fnExactScanFramesSpec)

/-- 'laws.FnReadFrame', WHERE WHAT IT READS IS OF BULK AT MOST 1048576: true; the input reads as it did. -/
def fnReadFrameUptoRow : OpenClaim := { program := "ytdflpildopefaaa", sum := "f043063f078d43c8029c9aa5ef24e0028c42e446360258ce735259d13be359bd", func := "loop.example/graphcluster/laws.FnReadFrame", spec := "fnReadFrame", apart := false, narrowed := true }
def FnReadFrameUptoSaid : Prop := fnReadFrameUptoRow.holds Try.pinned (OpenSpec.upto fnReadFrameSpec)

/-- 'laws.FnDiskCrash', WHERE WHAT IT READS IS OF BULK AT MOST 1048576: true; the input reads as it did. -/
def fnDiskCrashUptoRow : OpenClaim := { program := "ytdflpildopefaaa", sum := "f043063f078d43c8029c9aa5ef24e0028c42e446360258ce735259d13be359bd", func := "loop.example/graphcluster/laws.FnDiskCrash", spec := "fnDiskCrash", apart := false, narrowed := true }
def FnDiskCrashUptoSaid : Prop := fnDiskCrashUptoRow.holds Try.pinned (OpenSpec.upto fnDiskCrashSpec)

/-- 'laws.FnJoinFrames', WHERE WHAT IT READS IS OF BULK AT MOST 1048576: true; the input reads as it did. -/
def fnJoinFramesUptoRow : OpenClaim := { program := "ytdflpildopefaaa", sum := "f043063f078d43c8029c9aa5ef24e0028c42e446360258ce735259d13be359bd", func := "loop.example/graphcluster/laws.FnJoinFrames", spec := "fnJoinFrames", unfollowed := true, recurses := true, apart := false, narrowed := true }
def FnJoinFramesUptoSaid : Prop := fnJoinFramesUptoRow.holds Try.pinned (OpenSpec.upto fnJoinFramesSpec)

/-- 'laws.FnExactDiskRepair', WHERE WHAT IT READS IS OF BULK AT MOST 1048576: true; the input reads as it did. -/
def fnExactDiskRepairUptoRow : OpenClaim := { program := "ytdflpildopefaaa", sum := "f043063f078d43c8029c9aa5ef24e0028c42e446360258ce735259d13be359bd", func := "loop.example/graphcluster/laws.FnExactDiskRepair", spec := "fnExactDiskRepair", unfollowed := true, recurses := true, apart := false, narrowed := true }
def FnExactDiskRepairUptoSaid : Prop := fnExactDiskRepairUptoRow.holds Try.pinned (OpenSpec.upto fnExactDiskRepairSpec)

/-- 'laws.FnScanFrames', WHERE WHAT IT READS IS OF BULK AT MOST 1048576: true; the input reads as it did. -/
def fnScanFramesUptoRow : OpenClaim := { program := "ytdflpildopefaaa", sum := "f043063f078d43c8029c9aa5ef24e0028c42e446360258ce735259d13be359bd", func := "loop.example/graphcluster/laws.FnScanFrames", spec := "fnScanFrames", unfollowed := true, recurses := true, apart := false, narrowed := true }
def FnScanFramesUptoSaid : Prop := fnScanFramesUptoRow.holds Try.pinned (OpenSpec.upto fnScanFramesSpec)

/-- 'laws.FnDiskSync', WHERE WHAT IT READS IS OF BULK AT MOST 1048576: true; the input reads as it did. -/
def fnDiskSyncUptoRow : OpenClaim := { program := "ytdflpildopefaaa", sum := "f043063f078d43c8029c9aa5ef24e0028c42e446360258ce735259d13be359bd", func := "loop.example/graphcluster/laws.FnDiskSync", spec := "fnDiskSync", unfollowed := true, recurses := true, apart := false, narrowed := true }
def FnDiskSyncUptoSaid : Prop := fnDiskSyncUptoRow.holds Try.pinned (OpenSpec.upto fnDiskSyncSpec)

/-- 'laws.FnExactDiskRecords', WHERE WHAT IT READS IS OF BULK AT MOST 1048576: true; the input reads as it did. -/
def fnExactDiskRecordsUptoRow : OpenClaim := { program := "ytdflpildopefaaa", sum := "f043063f078d43c8029c9aa5ef24e0028c42e446360258ce735259d13be359bd", func := "loop.example/graphcluster/laws.FnExactDiskRecords", spec := "fnExactDiskRecords", unfollowed := true, recurses := true, apart := false, narrowed := true }
def FnExactDiskRecordsUptoSaid : Prop := fnExactDiskRecordsUptoRow.holds Try.pinned (OpenSpec.upto fnExactDiskRecordsSpec)

/-- 'laws.FnDiskRepair', WHERE WHAT IT READS IS OF BULK AT MOST 1048576: true; the input reads as it did. -/
def fnDiskRepairUptoRow : OpenClaim := { program := "ytdflpildopefaaa", sum := "f043063f078d43c8029c9aa5ef24e0028c42e446360258ce735259d13be359bd", func := "loop.example/graphcluster/laws.FnDiskRepair", spec := "fnDiskRepair", unfollowed := true, recurses := true, apart := false, narrowed := true }
def FnDiskRepairUptoSaid : Prop := fnDiskRepairUptoRow.holds Try.pinned (OpenSpec.upto fnDiskRepairSpec)

/-- 'laws.FnDiskRecords', WHERE WHAT IT READS IS OF BULK AT MOST 1048576: true; the input reads as it did. -/
def fnDiskRecordsUptoRow : OpenClaim := { program := "ytdflpildopefaaa", sum := "f043063f078d43c8029c9aa5ef24e0028c42e446360258ce735259d13be359bd", func := "loop.example/graphcluster/laws.FnDiskRecords", spec := "fnDiskRecords", unfollowed := true, recurses := true, apart := false, narrowed := true }
def FnDiskRecordsUptoSaid : Prop := fnDiskRecordsUptoRow.holds Try.pinned (OpenSpec.upto fnDiskRecordsSpec)

end Rows
end Go.Proofs.Ytdflpildopefaaa
