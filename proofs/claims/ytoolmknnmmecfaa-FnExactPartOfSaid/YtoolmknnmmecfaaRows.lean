/-
  No cell of these rows narrows 'for every input' (looked for: loops, veiled, ifaces, maps, wideKeys, modest, calm, conditions, laid).
  DERIVED. THE GIVEN ROWS OF THIS SEAT. 6 by the template 'for every input the law returns true; each argument reads behind the call as it read before'; 0 by the template 'total and deterministic' (their statements: YtoolmknnmmecfaaTotals.lean).
  GIVEN WITH THE SEED: the statements are not yours to turn. If you find one false, say at which input.
  Laid BY PROGRAM, IN A SANDBOX (cutbox-rows.mjs): the forced cells as the released guide's own fill.sh prints them over the translation 302e000584da077d… (all of the seat's roots in one cut). By AI agents, Wed Nov 11 2026. No macro, syntax, notation, axiom, sorry.
-/
import Derived.Test.YtoolmknnmmecfaaChecked
import GoSem.Claim
import GoSem.ClaimJoined
import GoSem.ClaimMapViews
import Derived.JoinedTies
import Derived.KernelRfl
namespace Go.Proofs.Ytoolmknnmmecfaa
/- THE CELL 'sum', in the pinned program and in every row, IS THE sha256 OF THE DUMP (.gsa) THAT YtoolmknnmmecfaaProg.lean LOADS. Nothing in Lean hashes anything: it is a label: what it is worth is what the hold of that sum in a sandbox is worth. -/
noncomputable def Try.pinned : Pinned := { name := "ytoolmknnmmecfaa", sum := "302e000584da077d94b282a047c16cab869cb34dec2d7b4c8934efab3c0771a4", checked := Try.checked }
namespace Rows
def none {H : Type} : Left H := { results := [], args := [] }

/-- 'laws.FnExactGraphValid': WHATEVER THE INPUT: true; the input reads as it did. -/
def fnExactGraphValidSpec : ChangeSpec := { name := "fnExactGraphValid", fn := fun _ => fun
  | [d] => { results := [.lit (.bool true)], args := [d] }
  | _ => none }
def fnExactGraphValidRow : OpenClaim := { program := "ytoolmknnmmecfaa", sum := "302e000584da077d94b282a047c16cab869cb34dec2d7b4c8934efab3c0771a4", func := "loop.example/graphcluster/laws.FnExactGraphValid", spec := "fnExactGraphValid", apart := false }
def FnExactGraphValidSaid : Prop := fnExactGraphValidRow.holds Try.pinned (OpenSpec.ofChange fnExactGraphValidSpec)

/-- ITS FALSE NEIGHBOUR: 'it returns false'. Refute it at one input. -/
def fnExactGraphValidWrong : ChangeSpec := { name := "fnExactGraphValid", fn := fun _ => fun
  | [d] => { results := [.lit (.bool false)], args := [d] }
  | _ => none }
def FnExactGraphValidWrongFalsely : Prop := fnExactGraphValidRow.holds Try.pinned (OpenSpec.ofChange fnExactGraphValidWrong)

/-- 'laws.FnExactWeightOf': WHATEVER THE INPUT: true; the input reads as it did. -/
def fnExactWeightOfSpec : ChangeSpec := { name := "fnExactWeightOf", fn := fun _ => fun
  | [d1, d2, d3] => { results := [.lit (.bool true)], args := [d1, d2, d3] }
  | _ => none }
def fnExactWeightOfRow : OpenClaim := { program := "ytoolmknnmmecfaa", sum := "302e000584da077d94b282a047c16cab869cb34dec2d7b4c8934efab3c0771a4", func := "loop.example/graphcluster/laws.FnExactWeightOf", spec := "fnExactWeightOf", apart := false }
def FnExactWeightOfSaid : Prop := fnExactWeightOfRow.holds Try.pinned (OpenSpec.ofChange fnExactWeightOfSpec)

/-- ITS FALSE NEIGHBOUR: 'it returns false'. Refute it at one input. -/
def fnExactWeightOfWrong : ChangeSpec := { name := "fnExactWeightOf", fn := fun _ => fun
  | [d1, d2, d3] => { results := [.lit (.bool false)], args := [d1, d2, d3] }
  | _ => none }
def FnExactWeightOfWrongFalsely : Prop := fnExactWeightOfRow.holds Try.pinned (OpenSpec.ofChange fnExactWeightOfWrong)

/-- 'laws.FnGraphValid': WHATEVER THE INPUT: true; the input reads as it did. -/
def fnGraphValidSpec : ChangeSpec := { name := "fnGraphValid", fn := fun _ => fun
  | [d] => { results := [.lit (.bool true)], args := [d] }
  | _ => none }
def fnGraphValidRow : OpenClaim := { program := "ytoolmknnmmecfaa", sum := "302e000584da077d94b282a047c16cab869cb34dec2d7b4c8934efab3c0771a4", func := "loop.example/graphcluster/laws.FnGraphValid", spec := "fnGraphValid", apart := false }
def FnGraphValidSaid : Prop := fnGraphValidRow.holds Try.pinned (OpenSpec.ofChange fnGraphValidSpec)

/-- ITS FALSE NEIGHBOUR: 'it returns false'. Refute it at one input. -/
def fnGraphValidWrong : ChangeSpec := { name := "fnGraphValid", fn := fun _ => fun
  | [d] => { results := [.lit (.bool false)], args := [d] }
  | _ => none }
def FnGraphValidWrongFalsely : Prop := fnGraphValidRow.holds Try.pinned (OpenSpec.ofChange fnGraphValidWrong)

/-- 'laws.FnExactPartOf': WHATEVER THE INPUT: true; the input reads as it did. -/
def fnExactPartOfSpec : ChangeSpec := { name := "fnExactPartOf", fn := fun _ => fun
  | [d1, d2, d3] => { results := [.lit (.bool true)], args := [d1, d2, d3] }
  | _ => none }
def fnExactPartOfRow : OpenClaim := { program := "ytoolmknnmmecfaa", sum := "302e000584da077d94b282a047c16cab869cb34dec2d7b4c8934efab3c0771a4", func := "loop.example/graphcluster/laws.FnExactPartOf", spec := "fnExactPartOf", apart := false }
def FnExactPartOfSaid : Prop := fnExactPartOfRow.holds Try.pinned (OpenSpec.ofChange fnExactPartOfSpec)

/-- ITS FALSE NEIGHBOUR: 'it returns false'. Refute it at one input. -/
def fnExactPartOfWrong : ChangeSpec := { name := "fnExactPartOf", fn := fun _ => fun
  | [d1, d2, d3] => { results := [.lit (.bool false)], args := [d1, d2, d3] }
  | _ => none }
def FnExactPartOfWrongFalsely : Prop := fnExactPartOfRow.holds Try.pinned (OpenSpec.ofChange fnExactPartOfWrong)

/-- 'laws.FnExactDegreesOf': WHATEVER THE INPUT: true; the input reads as it did. -/
def fnExactDegreesOfSpec : ChangeSpec := { name := "fnExactDegreesOf", fn := fun _ => fun
  | [d] => { results := [.lit (.bool true)], args := [d] }
  | _ => none }
def fnExactDegreesOfRow : OpenClaim := { program := "ytoolmknnmmecfaa", sum := "302e000584da077d94b282a047c16cab869cb34dec2d7b4c8934efab3c0771a4", func := "loop.example/graphcluster/laws.FnExactDegreesOf", spec := "fnExactDegreesOf", apart := false }
def FnExactDegreesOfSaid : Prop := fnExactDegreesOfRow.holds Try.pinned (OpenSpec.ofChange fnExactDegreesOfSpec)

/-- ITS FALSE NEIGHBOUR: 'it returns false'. Refute it at one input. -/
def fnExactDegreesOfWrong : ChangeSpec := { name := "fnExactDegreesOf", fn := fun _ => fun
  | [d] => { results := [.lit (.bool false)], args := [d] }
  | _ => none }
def FnExactDegreesOfWrongFalsely : Prop := fnExactDegreesOfRow.holds Try.pinned (OpenSpec.ofChange fnExactDegreesOfWrong)

/-- 'laws.FnExactGraphBytes': WHATEVER THE INPUT: true; the input reads as it did. -/
def fnExactGraphBytesSpec : ChangeSpec := { name := "fnExactGraphBytes", fn := fun _ => fun
  | [d] => { results := [.lit (.bool true)], args := [d] }
  | _ => none }
def fnExactGraphBytesRow : OpenClaim := { program := "ytoolmknnmmecfaa", sum := "302e000584da077d94b282a047c16cab869cb34dec2d7b4c8934efab3c0771a4", func := "loop.example/graphcluster/laws.FnExactGraphBytes", spec := "fnExactGraphBytes", apart := false }
def FnExactGraphBytesSaid : Prop := fnExactGraphBytesRow.holds Try.pinned (OpenSpec.ofChange fnExactGraphBytesSpec)

/-- ITS FALSE NEIGHBOUR: 'it returns false'. Refute it at one input. -/
def fnExactGraphBytesWrong : ChangeSpec := { name := "fnExactGraphBytes", fn := fun _ => fun
  | [d] => { results := [.lit (.bool false)], args := [d] }
  | _ => none }
def FnExactGraphBytesWrongFalsely : Prop := fnExactGraphBytesRow.holds Try.pinned (OpenSpec.ofChange fnExactGraphBytesWrong)

/- THE SECOND FORM. 'bulk': how many values and letters a reading holds, each counted each time it is reached (what is shared counts as often as it is met; a slice's spare places count too). A statement '..UptoSaid' is the law's where the arguments, and the package variables that the reading takes, are together of bulk at most 1048576: NARROWER than '..Said'. Prove '..Said' where nothing that the law and all that it calls make is longer than what came in: it says more and counts as full. Else prove '..UptoSaid'. A law counts once. -/
mutual
def uptoBulk {H : Type} : DataW H → Nat
  | .lit (.string bytes) => bytes.length + 1
  | .lit _ => 1
  | .nil => 1
  | .ptr d => uptoBulk d + 1
  | .slice elems spare => uptoBulkAll elems + uptoBulkAll spare + 1
  | .agg parts => uptoBulkAll parts + 1
  | .iface _ d => uptoBulk d + 1
  | .map entries => uptoBulkEntries entries + 1
  | .held _ => 1
def uptoBulkAll {H : Type} : List (DataW H) → Nat
  | [] => 0
  | d :: r => uptoBulk d + uptoBulkAll r
def uptoBulkEntries {H : Type} : List (Lit × DataW H) → Nat
  | [] => 0
  | x :: r => uptoBulkEntry x + uptoBulkEntries r
def uptoBulkEntry {H : Type} : Lit × DataW H → Nat
  | (.string bytes, d) => bytes.length + uptoBulk d + 1
  | (_, d) => uptoBulk d + 1
 end
def uptoSmall : (H : Type) → List (DataW H) → Bool := fun _ ds => decide (uptoBulkAll ds ≤ 1048576)
def OpenSpec.upto (s : _root_.Go.ChangeSpec) : _root_.Go.OpenSpec := { _root_.Go.OpenSpec.ofChange s with cond := some uptoSmall }

/-- 'laws.FnExactGraphValid', WHERE WHAT IT READS IS OF BULK AT MOST 1048576: true; the input reads as it did. -/
def fnExactGraphValidUptoRow : OpenClaim := { program := "ytoolmknnmmecfaa", sum := "302e000584da077d94b282a047c16cab869cb34dec2d7b4c8934efab3c0771a4", func := "loop.example/graphcluster/laws.FnExactGraphValid", spec := "fnExactGraphValid", apart := false, narrowed := true }
def FnExactGraphValidUptoSaid : Prop := fnExactGraphValidUptoRow.holds Try.pinned (OpenSpec.upto fnExactGraphValidSpec)

/-- 'laws.FnExactWeightOf', WHERE WHAT IT READS IS OF BULK AT MOST 1048576: true; the input reads as it did. -/
def fnExactWeightOfUptoRow : OpenClaim := { program := "ytoolmknnmmecfaa", sum := "302e000584da077d94b282a047c16cab869cb34dec2d7b4c8934efab3c0771a4", func := "loop.example/graphcluster/laws.FnExactWeightOf", spec := "fnExactWeightOf", apart := false, narrowed := true }
def FnExactWeightOfUptoSaid : Prop := fnExactWeightOfUptoRow.holds Try.pinned (OpenSpec.upto fnExactWeightOfSpec)

/-- 'laws.FnGraphValid', WHERE WHAT IT READS IS OF BULK AT MOST 1048576: true; the input reads as it did. -/
def fnGraphValidUptoRow : OpenClaim := { program := "ytoolmknnmmecfaa", sum := "302e000584da077d94b282a047c16cab869cb34dec2d7b4c8934efab3c0771a4", func := "loop.example/graphcluster/laws.FnGraphValid", spec := "fnGraphValid", apart := false, narrowed := true }
def FnGraphValidUptoSaid : Prop := fnGraphValidUptoRow.holds Try.pinned (OpenSpec.upto fnGraphValidSpec)

/-- 'laws.FnExactPartOf', WHERE WHAT IT READS IS OF BULK AT MOST 1048576: true; the input reads as it did. -/
def fnExactPartOfUptoRow : OpenClaim := { program := "ytoolmknnmmecfaa", sum := "302e000584da077d94b282a047c16cab869cb34dec2d7b4c8934efab3c0771a4", func := "loop.example/graphcluster/laws.FnExactPartOf", spec := "fnExactPartOf", apart := false, narrowed := true }
def FnExactPartOfUptoSaid : Prop := fnExactPartOfUptoRow.holds Try.pinned (OpenSpec.upto fnExactPartOfSpec)

/-- 'laws.FnExactDegreesOf', WHERE WHAT IT READS IS OF BULK AT MOST 1048576: true; the input reads as it did. -/
def fnExactDegreesOfUptoRow : OpenClaim := { program := "ytoolmknnmmecfaa", sum := "302e000584da077d94b282a047c16cab869cb34dec2d7b4c8934efab3c0771a4", func := "loop.example/graphcluster/laws.FnExactDegreesOf", spec := "fnExactDegreesOf", apart := false, narrowed := true }
def FnExactDegreesOfUptoSaid : Prop := fnExactDegreesOfUptoRow.holds Try.pinned (OpenSpec.upto fnExactDegreesOfSpec)

/-- 'laws.FnExactGraphBytes', WHERE WHAT IT READS IS OF BULK AT MOST 1048576: true; the input reads as it did. -/
def fnExactGraphBytesUptoRow : OpenClaim := { program := "ytoolmknnmmecfaa", sum := "302e000584da077d94b282a047c16cab869cb34dec2d7b4c8934efab3c0771a4", func := "loop.example/graphcluster/laws.FnExactGraphBytes", spec := "fnExactGraphBytes", apart := false, narrowed := true }
def FnExactGraphBytesUptoSaid : Prop := fnExactGraphBytesUptoRow.holds Try.pinned (OpenSpec.upto fnExactGraphBytesSpec)

end Rows
end Go.Proofs.Ytoolmknnmmecfaa
