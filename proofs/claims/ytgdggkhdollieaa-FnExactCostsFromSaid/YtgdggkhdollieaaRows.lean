/-
  No cell of these rows narrows 'for every input' (looked for: loops, veiled, ifaces, maps, wideKeys, modest, calm, conditions, laid).
  DERIVED. THE GIVEN ROWS OF THIS SEAT. 9 by the template 'for every input the law returns true; each argument reads behind the call as it read before'; 0 by the template 'total and deterministic' (their statements: YtgdggkhdollieaaTotals.lean).
  GIVEN WITH THE SEED: the statements are not yours to turn. If you find one false, say at which input.
  Laid BY PROGRAM, IN A SANDBOX (cutbox-rows.mjs): the forced cells as the released guide's own fill.sh prints them over the translation c89a2241c889d993… (all of the seat's roots in one cut). By AI agents, Wed Nov 11 2026. No macro, syntax, notation, axiom, sorry.
-/
import Derived.Test.YtgdggkhdollieaaChecked
import GoSem.Claim
import GoSem.ClaimJoined
import GoSem.ClaimMapViews
import Derived.JoinedTies
import Derived.KernelRfl
namespace Go.Proofs.Ytgdggkhdollieaa
/- THE CELL 'sum', in the pinned program and in every row, IS THE sha256 OF THE DUMP (.gsa) THAT YtgdggkhdollieaaProg.lean LOADS. Nothing in Lean hashes anything: it is a label: what it is worth is what the hold of that sum in a sandbox is worth. -/
noncomputable def Try.pinned : Pinned := { name := "ytgdggkhdollieaa", sum := "c89a2241c889d993e415d7053757fed3942a5e6009b2e905ebb4e6c2b89f5f31", checked := Try.checked }
namespace Rows
def none {H : Type} : Left H := { results := [], args := [] }

/-- 'laws.FnManyAtLeast': WHATEVER THE INPUT: true; the input reads as it did. -/
def fnManyAtLeastSpec : ChangeSpec := { name := "fnManyAtLeast", fn := fun _ => fun
  | [d] => { results := [.lit (.bool true)], args := [d] }
  | _ => none }
def fnManyAtLeastRow : OpenClaim := { program := "ytgdggkhdollieaa", sum := "c89a2241c889d993e415d7053757fed3942a5e6009b2e905ebb4e6c2b89f5f31", func := "loop.example/graphcluster/laws.FnManyAtLeast", spec := "fnManyAtLeast", unfollowed := true, recurses := true, apart := false }
def FnManyAtLeastSaid : Prop := fnManyAtLeastRow.holds Try.pinned (OpenSpec.ofChange fnManyAtLeastSpec)

/-- ITS FALSE NEIGHBOUR: 'it returns false'. Refute it at one input. -/
def fnManyAtLeastWrong : ChangeSpec := { name := "fnManyAtLeast", fn := fun _ => fun
  | [d] => { results := [.lit (.bool false)], args := [d] }
  | _ => none }
def FnManyAtLeastWrongFalsely : Prop := fnManyAtLeastRow.holds Try.pinned (OpenSpec.ofChange fnManyAtLeastWrong)

/-- 'laws.FnSortMessages': WHATEVER THE INPUT: true; the input reads as it did. -/
def fnSortMessagesSpec : ChangeSpec := { name := "fnSortMessages", fn := fun _ => fun
  | [d] => { results := [.lit (.bool true)], args := [d] }
  | _ => none }
def fnSortMessagesRow : OpenClaim := { program := "ytgdggkhdollieaa", sum := "c89a2241c889d993e415d7053757fed3942a5e6009b2e905ebb4e6c2b89f5f31", func := "loop.example/graphcluster/laws.FnSortMessages", spec := "fnSortMessages", unfollowed := true, recurses := true, apart := false }
def FnSortMessagesSaid : Prop := fnSortMessagesRow.holds Try.pinned (OpenSpec.ofChange fnSortMessagesSpec)

/-- ITS FALSE NEIGHBOUR: 'it returns false'. Refute it at one input. -/
def fnSortMessagesWrong : ChangeSpec := { name := "fnSortMessages", fn := fun _ => fun
  | [d] => { results := [.lit (.bool false)], args := [d] }
  | _ => none }
def FnSortMessagesWrongFalsely : Prop := fnSortMessagesRow.holds Try.pinned (OpenSpec.ofChange fnSortMessagesWrong)

/-- 'laws.FnExactSortMessages': WHATEVER THE INPUT: true; the input reads as it did. -/
def fnExactSortMessagesSpec : ChangeSpec := { name := "fnExactSortMessages", fn := fun _ => fun
  | [d] => { results := [.lit (.bool true)], args := [d] }
  | _ => none }
def fnExactSortMessagesRow : OpenClaim := { program := "ytgdggkhdollieaa", sum := "c89a2241c889d993e415d7053757fed3942a5e6009b2e905ebb4e6c2b89f5f31", func := "loop.example/graphcluster/laws.FnExactSortMessages", spec := "fnExactSortMessages", unfollowed := true, recurses := true, apart := false }
def FnExactSortMessagesSaid : Prop := fnExactSortMessagesRow.holds Try.pinned (OpenSpec.ofChange fnExactSortMessagesSpec)

/-- ITS FALSE NEIGHBOUR: 'it returns false'. Refute it at one input. -/
def fnExactSortMessagesWrong : ChangeSpec := { name := "fnExactSortMessages", fn := fun _ => fun
  | [d] => { results := [.lit (.bool false)], args := [d] }
  | _ => none }
def FnExactSortMessagesWrongFalsely : Prop := fnExactSortMessagesRow.holds Try.pinned (OpenSpec.ofChange fnExactSortMessagesWrong)

/-- 'laws.FnExactStartState': WHATEVER THE INPUT: true; the input reads as it did. -/
def fnExactStartStateSpec : ChangeSpec := { name := "fnExactStartState", fn := fun _ => fun
  | [d] => { results := [.lit (.bool true)], args := [d] }
  | _ => none }
def fnExactStartStateRow : OpenClaim := { program := "ytgdggkhdollieaa", sum := "c89a2241c889d993e415d7053757fed3942a5e6009b2e905ebb4e6c2b89f5f31", func := "loop.example/graphcluster/laws.FnExactStartState", spec := "fnExactStartState", apart := false }
def FnExactStartStateSaid : Prop := fnExactStartStateRow.holds Try.pinned (OpenSpec.ofChange fnExactStartStateSpec)

/-- ITS FALSE NEIGHBOUR: 'it returns false'. Refute it at one input. -/
def fnExactStartStateWrong : ChangeSpec := { name := "fnExactStartState", fn := fun _ => fun
  | [d] => { results := [.lit (.bool false)], args := [d] }
  | _ => none }
def FnExactStartStateWrongFalsely : Prop := fnExactStartStateRow.holds Try.pinned (OpenSpec.ofChange fnExactStartStateWrong)

/-- 'laws.FnExactLastRound': WHATEVER THE INPUT: true; the input reads as it did. -/
def fnExactLastRoundSpec : ChangeSpec := { name := "fnExactLastRound", fn := fun _ => fun
  | [d1, d2] => { results := [.lit (.bool true)], args := [d1, d2] }
  | _ => none }
def fnExactLastRoundRow : OpenClaim := { program := "ytgdggkhdollieaa", sum := "c89a2241c889d993e415d7053757fed3942a5e6009b2e905ebb4e6c2b89f5f31", func := "loop.example/graphcluster/laws.FnExactLastRound", spec := "fnExactLastRound", apart := false }
def FnExactLastRoundSaid : Prop := fnExactLastRoundRow.holds Try.pinned (OpenSpec.ofChange fnExactLastRoundSpec)

/-- ITS FALSE NEIGHBOUR: 'it returns false'. Refute it at one input. -/
def fnExactLastRoundWrong : ChangeSpec := { name := "fnExactLastRound", fn := fun _ => fun
  | [d1, d2] => { results := [.lit (.bool false)], args := [d1, d2] }
  | _ => none }
def FnExactLastRoundWrongFalsely : Prop := fnExactLastRoundRow.holds Try.pinned (OpenSpec.ofChange fnExactLastRoundWrong)

/-- 'laws.FnStartState': WHATEVER THE INPUT: true; the input reads as it did. -/
def fnStartStateSpec : ChangeSpec := { name := "fnStartState", fn := fun _ => fun
  | [d] => { results := [.lit (.bool true)], args := [d] }
  | _ => none }
def fnStartStateRow : OpenClaim := { program := "ytgdggkhdollieaa", sum := "c89a2241c889d993e415d7053757fed3942a5e6009b2e905ebb4e6c2b89f5f31", func := "loop.example/graphcluster/laws.FnStartState", spec := "fnStartState", unfollowed := true, recurses := true, apart := false }
def FnStartStateSaid : Prop := fnStartStateRow.holds Try.pinned (OpenSpec.ofChange fnStartStateSpec)

/-- ITS FALSE NEIGHBOUR: 'it returns false'. Refute it at one input. -/
def fnStartStateWrong : ChangeSpec := { name := "fnStartState", fn := fun _ => fun
  | [d] => { results := [.lit (.bool false)], args := [d] }
  | _ => none }
def FnStartStateWrongFalsely : Prop := fnStartStateRow.holds Try.pinned (OpenSpec.ofChange fnStartStateWrong)

/-- 'laws.FnExactStateValid': WHATEVER THE INPUT: true; the input reads as it did. -/
def fnExactStateValidSpec : ChangeSpec := { name := "fnExactStateValid", fn := fun _ => fun
  | [d1, d2] => { results := [.lit (.bool true)], args := [d1, d2] }
  | _ => none }
def fnExactStateValidRow : OpenClaim := { program := "ytgdggkhdollieaa", sum := "c89a2241c889d993e415d7053757fed3942a5e6009b2e905ebb4e6c2b89f5f31", func := "loop.example/graphcluster/laws.FnExactStateValid", spec := "fnExactStateValid", unfollowed := true, recurses := true, apart := false }
def FnExactStateValidSaid : Prop := fnExactStateValidRow.holds Try.pinned (OpenSpec.ofChange fnExactStateValidSpec)

/-- ITS FALSE NEIGHBOUR: 'it returns false'. Refute it at one input. -/
def fnExactStateValidWrong : ChangeSpec := { name := "fnExactStateValid", fn := fun _ => fun
  | [d1, d2] => { results := [.lit (.bool false)], args := [d1, d2] }
  | _ => none }
def FnExactStateValidWrongFalsely : Prop := fnExactStateValidRow.holds Try.pinned (OpenSpec.ofChange fnExactStateValidWrong)

/-- 'laws.FnExactCostsFrom': WHATEVER THE INPUT: true; the input reads as it did. -/
def fnExactCostsFromSpec : ChangeSpec := { name := "fnExactCostsFrom", fn := fun _ => fun
  | [d1, d2] => { results := [.lit (.bool true)], args := [d1, d2] }
  | _ => none }
def fnExactCostsFromRow : OpenClaim := { program := "ytgdggkhdollieaa", sum := "c89a2241c889d993e415d7053757fed3942a5e6009b2e905ebb4e6c2b89f5f31", func := "loop.example/graphcluster/laws.FnExactCostsFrom", spec := "fnExactCostsFrom", unfollowed := true, recurses := true, apart := false }
def FnExactCostsFromSaid : Prop := fnExactCostsFromRow.holds Try.pinned (OpenSpec.ofChange fnExactCostsFromSpec)

/-- ITS FALSE NEIGHBOUR: 'it returns false'. Refute it at one input. -/
def fnExactCostsFromWrong : ChangeSpec := { name := "fnExactCostsFrom", fn := fun _ => fun
  | [d1, d2] => { results := [.lit (.bool false)], args := [d1, d2] }
  | _ => none }
def FnExactCostsFromWrongFalsely : Prop := fnExactCostsFromRow.holds Try.pinned (OpenSpec.ofChange fnExactCostsFromWrong)

/-- 'laws.FnExactManyAtLeast': WHATEVER THE INPUT: true; the input reads as it did. -/
def fnExactManyAtLeastSpec : ChangeSpec := { name := "fnExactManyAtLeast", fn := fun _ => fun
  | [d] => { results := [.lit (.bool true)], args := [d] }
  | _ => none }
def fnExactManyAtLeastRow : OpenClaim := { program := "ytgdggkhdollieaa", sum := "c89a2241c889d993e415d7053757fed3942a5e6009b2e905ebb4e6c2b89f5f31", func := "loop.example/graphcluster/laws.FnExactManyAtLeast", spec := "fnExactManyAtLeast", unfollowed := true, recurses := true, apart := false }
def FnExactManyAtLeastSaid : Prop := fnExactManyAtLeastRow.holds Try.pinned (OpenSpec.ofChange fnExactManyAtLeastSpec)

/-- ITS FALSE NEIGHBOUR: 'it returns false'. Refute it at one input. -/
def fnExactManyAtLeastWrong : ChangeSpec := { name := "fnExactManyAtLeast", fn := fun _ => fun
  | [d] => { results := [.lit (.bool false)], args := [d] }
  | _ => none }
def FnExactManyAtLeastWrongFalsely : Prop := fnExactManyAtLeastRow.holds Try.pinned (OpenSpec.ofChange fnExactManyAtLeastWrong)

/- THE SECOND FORM. 'bulk': how many values and letters a reading holds, each counted each time it is reached (what is shared counts as often as it is met; a slice's spare places count too). A statement '..UptoSaid' is the law's where the arguments, and the package variables that the reading takes, are together of bulk at most 1048576: NARROWER than '..Said'. Prove '..Said' where nothing that the law and all that it calls make is longer than what came in: it says more and counts as full. Else prove '..UptoSaid'. A law counts once. -/
mutual
def uptoBulk {H : Type} : DataW H → Nat
  | .lit (.string bytes) => bytes.length + 1
  | .lit _ => 1
  | .nil => 1
  | .ptr d => uptoBulk d + 1
  | .slice elems spare => uptoBulkAll elems + uptoBulkAll spare + 1
  | .agg parts => uptoBulkAll parts + 1
  | .iface _ d => uptoBulk d + 1
  | .map entries => uptoBulkEntries entries + 1
  | .held _ => 1
def uptoBulkAll {H : Type} : List (DataW H) → Nat
  | [] => 0
  | d :: r => uptoBulk d + uptoBulkAll r
def uptoBulkEntries {H : Type} : List (Lit × DataW H) → Nat
  | [] => 0
  | x :: r => uptoBulkEntry x + uptoBulkEntries r
def uptoBulkEntry {H : Type} : Lit × DataW H → Nat
  | (.string bytes, d) => bytes.length + uptoBulk d + 1
  | (_, d) => uptoBulk d + 1
 end
def uptoSmall : (H : Type) → List (DataW H) → Bool := fun _ ds => decide (uptoBulkAll ds ≤ 1048576)
def OpenSpec.upto (s : _root_.Go.ChangeSpec) : _root_.Go.OpenSpec := { _root_.Go.OpenSpec.ofChange s with cond := some uptoSmall }

/-- 'laws.FnManyAtLeast', WHERE WHAT IT READS IS OF BULK AT MOST 1048576: true; the input reads as it did. -/
def fnManyAtLeastUptoRow : OpenClaim := { program := "ytgdggkhdollieaa", sum := "c89a2241c889d993e415d7053757fed3942a5e6009b2e905ebb4e6c2b89f5f31", func := "loop.example/graphcluster/laws.FnManyAtLeast", spec := "fnManyAtLeast", unfollowed := true, recurses := true, apart := false, narrowed := true }
def FnManyAtLeastUptoSaid : Prop := fnManyAtLeastUptoRow.holds Try.pinned (OpenSpec.upto fnManyAtLeastSpec)

/-- 'laws.FnSortMessages', WHERE WHAT IT READS IS OF BULK AT MOST 1048576: true; the input reads as it did. -/
def fnSortMessagesUptoRow : OpenClaim := { program := "ytgdggkhdollieaa", sum := "c89a2241c889d993e415d7053757fed3942a5e6009b2e905ebb4e6c2b89f5f31", func := "loop.example/graphcluster/laws.FnSortMessages", spec := "fnSortMessages", unfollowed := true, recurses := true, apart := false, narrowed := true }
def FnSortMessagesUptoSaid : Prop := fnSortMessagesUptoRow.holds Try.pinned (OpenSpec.upto fnSortMessagesSpec)

/-- 'laws.FnExactSortMessages', WHERE WHAT IT READS IS OF BULK AT MOST 1048576: true; the input reads as it did. -/
def fnExactSortMessagesUptoRow : OpenClaim := { program := "ytgdggkhdollieaa", sum := "c89a2241c889d993e415d7053757fed3942a5e6009b2e905ebb4e6c2b89f5f31", func := "loop.example/graphcluster/laws.FnExactSortMessages", spec := "fnExactSortMessages", unfollowed := true, recurses := true, apart := false, narrowed := true }
def FnExactSortMessagesUptoSaid : Prop := fnExactSortMessagesUptoRow.holds Try.pinned (OpenSpec.upto fnExactSortMessagesSpec)

/-- 'laws.FnExactStartState', WHERE WHAT IT READS IS OF BULK AT MOST 1048576: true; the input reads as it did. -/
def fnExactStartStateUptoRow : OpenClaim := { program := "ytgdggkhdollieaa", sum := "c89a2241c889d993e415d7053757fed3942a5e6009b2e905ebb4e6c2b89f5f31", func := "loop.example/graphcluster/laws.FnExactStartState", spec := "fnExactStartState", apart := false, narrowed := true }
def FnExactStartStateUptoSaid : Prop := fnExactStartStateUptoRow.holds Try.pinned (OpenSpec.upto fnExactStartStateSpec)

/-- 'laws.FnExactLastRound', WHERE WHAT IT READS IS OF BULK AT MOST 1048576: true; the input reads as it did. -/
def fnExactLastRoundUptoRow : OpenClaim := { program := "ytgdggkhdollieaa", sum := "c89a2241c889d993e415d7053757fed3942a5e6009b2e905ebb4e6c2b89f5f31", func := "loop.example/graphcluster/laws.FnExactLastRound", spec := "fnExactLastRound", apart := false, narrowed := true }
def FnExactLastRoundUptoSaid : Prop := fnExactLastRoundUptoRow.holds Try.pinned (OpenSpec.upto fnExactLastRoundSpec)

/-- 'laws.FnStartState', WHERE WHAT IT READS IS OF BULK AT MOST 1048576: true; the input reads as it did. -/
def fnStartStateUptoRow : OpenClaim := { program := "ytgdggkhdollieaa", sum := "c89a2241c889d993e415d7053757fed3942a5e6009b2e905ebb4e6c2b89f5f31", func := "loop.example/graphcluster/laws.FnStartState", spec := "fnStartState", unfollowed := true, recurses := true, apart := false, narrowed := true }
def FnStartStateUptoSaid : Prop := fnStartStateUptoRow.holds Try.pinned (OpenSpec.upto fnStartStateSpec)

/-- 'laws.FnExactStateValid', WHERE WHAT IT READS IS OF BULK AT MOST 1048576: true; the input reads as it did. -/
def fnExactStateValidUptoRow : OpenClaim := { program := "ytgdggkhdollieaa", sum := "c89a2241c889d993e415d7053757fed3942a5e6009b2e905ebb4e6c2b89f5f31", func := "loop.example/graphcluster/laws.FnExactStateValid", spec := "fnExactStateValid", unfollowed := true, recurses := true, apart := false, narrowed := true }
def FnExactStateValidUptoSaid : Prop := fnExactStateValidUptoRow.holds Try.pinned (OpenSpec.upto fnExactStateValidSpec)

/-- 'laws.FnExactCostsFrom', WHERE WHAT IT READS IS OF BULK AT MOST 1048576: true; the input reads as it did. -/
def fnExactCostsFromUptoRow : OpenClaim := { program := "ytgdggkhdollieaa", sum := "c89a2241c889d993e415d7053757fed3942a5e6009b2e905ebb4e6c2b89f5f31", func := "loop.example/graphcluster/laws.FnExactCostsFrom", spec := "fnExactCostsFrom", unfollowed := true, recurses := true, apart := false, narrowed := true }
def FnExactCostsFromUptoSaid : Prop := fnExactCostsFromUptoRow.holds Try.pinned (OpenSpec.upto fnExactCostsFromSpec)

/-- 'laws.FnExactManyAtLeast', WHERE WHAT IT READS IS OF BULK AT MOST 1048576: true; the input reads as it did. -/
def fnExactManyAtLeastUptoRow : OpenClaim := { program := "ytgdggkhdollieaa", sum := "c89a2241c889d993e415d7053757fed3942a5e6009b2e905ebb4e6c2b89f5f31", func := "loop.example/graphcluster/laws.FnExactManyAtLeast", spec := "fnExactManyAtLeast", unfollowed := true, recurses := true, apart := false, narrowed := true }
def FnExactManyAtLeastUptoSaid : Prop := fnExactManyAtLeastUptoRow.holds Try.pinned (OpenSpec.upto fnExactManyAtLeastSpec)

end Rows
end Go.Proofs.Ytgdggkhdollieaa
