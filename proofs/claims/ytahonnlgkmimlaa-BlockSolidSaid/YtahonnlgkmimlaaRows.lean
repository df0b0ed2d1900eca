/-
  No cell of these rows narrows 'for every input' (looked for: loops, veiled, ifaces, maps, wideKeys, modest, calm, conditions, laid).
  DERIVED. THE GIVEN ROWS OF THIS SEAT. 14 by the template 'for every input the law returns true; each argument reads behind the call as it read before'; 0 by the template 'total and deterministic' (their statements: YtahonnlgkmimlaaTotals.lean).
  GIVEN WITH THE SEED: the statements are not yours to turn. If you find one false, say at which input.
  Laid BY PROGRAM, IN A SANDBOX (cutbox-rows.mjs): the forced cells as the released guide's own fill.sh prints them over the translation 2cd5dd7b439109f8… (all of the seat's roots in one cut). By AI agents, Wed Nov 11 2026. No macro, syntax, notation, axiom, sorry.
-/
import Derived.Test.YtahonnlgkmimlaaChecked
import GoSem.Claim
import GoSem.ClaimJoined
import GoSem.ClaimMapViews
import Derived.JoinedTies
import Derived.KernelRfl
namespace Go.Proofs.Ytahonnlgkmimlaa
/- THE CELL 'sum', in the pinned program and in every row, IS THE sha256 OF THE DUMP (.gsa) THAT YtahonnlgkmimlaaProg.lean LOADS. Nothing in Lean hashes anything: it is a label: what it is worth is what the hold of that sum in a sandbox is worth. -/
noncomputable def Try.pinned : Pinned := { name := "ytahonnlgkmimlaa", sum := "2cd5dd7b439109f8b1bb7b8ad56f4d5732dff5964ca5e54773fe0c0e42b551e1", checked := Try.checked }
namespace Rows
def none {H : Type} : Left H := { results := [], args := [] }

/-- 'tracerylaw04.GraphTwins': WHATEVER THE INPUT: true; the input reads as it did. -/
def graphTwinsSpec : ChangeSpec := { name := "graphTwins", fn := fun _ => fun
  | [d1, d2] => { results := [.lit (.bool true)], args := [d1, d2] }
  | _ => none }
def graphTwinsRow : OpenClaim := { program := "ytahonnlgkmimlaa", sum := "2cd5dd7b439109f8b1bb7b8ad56f4d5732dff5964ca5e54773fe0c0e42b551e1", func := "tracery/tracerylaw04.GraphTwins", spec := "graphTwins", recurses := true, apart := false }
def GraphTwinsSaid : Prop := graphTwinsRow.holds Try.pinned (OpenSpec.ofChange graphTwinsSpec)

/-- ITS FALSE NEIGHBOUR: 'it returns false'. Refute it at one input. -/
def graphTwinsWrong : ChangeSpec := { name := "graphTwins", fn := fun _ => fun
  | [d1, d2] => { results := [.lit (.bool false)], args := [d1, d2] }
  | _ => none }
def GraphTwinsWrongFalsely : Prop := graphTwinsRow.holds Try.pinned (OpenSpec.ofChange graphTwinsWrong)

/-- 'tracerylaw04.GraphSpans': WHATEVER THE INPUT: true; the input reads as it did. -/
def graphSpansSpec : ChangeSpec := { name := "graphSpans", fn := fun _ => fun
  | [d1, d2] => { results := [.lit (.bool true)], args := [d1, d2] }
  | _ => none }
def graphSpansRow : OpenClaim := { program := "ytahonnlgkmimlaa", sum := "2cd5dd7b439109f8b1bb7b8ad56f4d5732dff5964ca5e54773fe0c0e42b551e1", func := "tracery/tracerylaw04.GraphSpans", spec := "graphSpans", recurses := true, apart := false }
def GraphSpansSaid : Prop := graphSpansRow.holds Try.pinned (OpenSpec.ofChange graphSpansSpec)

/-- ITS FALSE NEIGHBOUR: 'it returns false'. Refute it at one input. -/
def graphSpansWrong : ChangeSpec := { name := "graphSpans", fn := fun _ => fun
  | [d1, d2] => { results := [.lit (.bool false)], args := [d1, d2] }
  | _ => none }
def GraphSpansWrongFalsely : Prop := graphSpansRow.holds Try.pinned (OpenSpec.ofChange graphSpansWrong)

/-- 'tracerylaw04.GraphRights': WHATEVER THE INPUT: true; the input reads as it did. -/
def graphRightsSpec : ChangeSpec := { name := "graphRights", fn := fun _ => fun
  | [d1, d2, d3, d4] => { results := [.lit (.bool true)], args := [d1, d2, d3, d4] }
  | _ => none }
def graphRightsRow : OpenClaim := { program := "ytahonnlgkmimlaa", sum := "2cd5dd7b439109f8b1bb7b8ad56f4d5732dff5964ca5e54773fe0c0e42b551e1", func := "tracery/tracerylaw04.GraphRights", spec := "graphRights", recurses := true, apart := false }
def GraphRightsSaid : Prop := graphRightsRow.holds Try.pinned (OpenSpec.ofChange graphRightsSpec)

/-- ITS FALSE NEIGHBOUR: 'it returns false'. Refute it at one input. -/
def graphRightsWrong : ChangeSpec := { name := "graphRights", fn := fun _ => fun
  | [d1, d2, d3, d4] => { results := [.lit (.bool false)], args := [d1, d2, d3, d4] }
  | _ => none }
def GraphRightsWrongFalsely : Prop := graphRightsRow.holds Try.pinned (OpenSpec.ofChange graphRightsWrong)

/-- 'tracerylaw04.GraphPuts': WHATEVER THE INPUT: true; the input reads as it did. -/
def graphPutsSpec : ChangeSpec := { name := "graphPuts", fn := fun _ => fun
  | [d1, d2, d3] => { results := [.lit (.bool true)], args := [d1, d2, d3] }
  | _ => none }
def graphPutsRow : OpenClaim := { program := "ytahonnlgkmimlaa", sum := "2cd5dd7b439109f8b1bb7b8ad56f4d5732dff5964ca5e54773fe0c0e42b551e1", func := "tracery/tracerylaw04.GraphPuts", spec := "graphPuts", recurses := true, apart := false }
def GraphPutsSaid : Prop := graphPutsRow.holds Try.pinned (OpenSpec.ofChange graphPutsSpec)

/-- ITS FALSE NEIGHBOUR: 'it returns false'. Refute it at one input. -/
def graphPutsWrong : ChangeSpec := { name := "graphPuts", fn := fun _ => fun
  | [d1, d2, d3] => { results := [.lit (.bool false)], args := [d1, d2, d3] }
  | _ => none }
def GraphPutsWrongFalsely : Prop := graphPutsRow.holds Try.pinned (OpenSpec.ofChange graphPutsWrong)

/-- 'tracerylaw04.GraphParts': WHATEVER THE INPUT: true; the input reads as it did. -/
def graphPartsSpec : ChangeSpec := { name := "graphParts", fn := fun _ => fun
  | [d1, d2, d3, d4] => { results := [.lit (.bool true)], args := [d1, d2, d3, d4] }
  | _ => none }
def graphPartsRow : OpenClaim := { program := "ytahonnlgkmimlaa", sum := "2cd5dd7b439109f8b1bb7b8ad56f4d5732dff5964ca5e54773fe0c0e42b551e1", func := "tracery/tracerylaw04.GraphParts", spec := "graphParts", recurses := true, apart := false }
def GraphPartsSaid : Prop := graphPartsRow.holds Try.pinned (OpenSpec.ofChange graphPartsSpec)

/-- ITS FALSE NEIGHBOUR: 'it returns false'. Refute it at one input. -/
def graphPartsWrong : ChangeSpec := { name := "graphParts", fn := fun _ => fun
  | [d1, d2, d3, d4] => { results := [.lit (.bool false)], args := [d1, d2, d3, d4] }
  | _ => none }
def GraphPartsWrongFalsely : Prop := graphPartsRow.holds Try.pinned (OpenSpec.ofChange graphPartsWrong)

/-- 'tracerylaw04.GraphLists': WHATEVER THE INPUT: true; the input reads as it did. -/
def graphListsSpec : ChangeSpec := { name := "graphLists", fn := fun _ => fun
  | [d1, d2, d3] => { results := [.lit (.bool true)], args := [d1, d2, d3] }
  | _ => none }
def graphListsRow : OpenClaim := { program := "ytahonnlgkmimlaa", sum := "2cd5dd7b439109f8b1bb7b8ad56f4d5732dff5964ca5e54773fe0c0e42b551e1", func := "tracery/tracerylaw04.GraphLists", spec := "graphLists", recurses := true, apart := false }
def GraphListsSaid : Prop := graphListsRow.holds Try.pinned (OpenSpec.ofChange graphListsSpec)

/-- ITS FALSE NEIGHBOUR: 'it returns false'. Refute it at one input. -/
def graphListsWrong : ChangeSpec := { name := "graphLists", fn := fun _ => fun
  | [d1, d2, d3] => { results := [.lit (.bool false)], args := [d1, d2, d3] }
  | _ => none }
def GraphListsWrongFalsely : Prop := graphListsRow.holds Try.pinned (OpenSpec.ofChange graphListsWrong)

/-- 'tracerylaw11.BlockOnce': WHATEVER THE INPUT: true; the input reads as it did. -/
def blockOnceSpec : ChangeSpec := { name := "blockOnce", fn := fun _ => fun
  | [d1, d2] => { results := [.lit (.bool true)], args := [d1, d2] }
  | _ => none }
def blockOnceRow : OpenClaim := { program := "ytahonnlgkmimlaa", sum := "2cd5dd7b439109f8b1bb7b8ad56f4d5732dff5964ca5e54773fe0c0e42b551e1", func := "tracery/tracerylaw11.BlockOnce", spec := "blockOnce", unfollowed := true, recurses := true, apart := false }
def BlockOnceSaid : Prop := blockOnceRow.holds Try.pinned (OpenSpec.ofChange blockOnceSpec)

/-- ITS FALSE NEIGHBOUR: 'it returns false'. Refute it at one input. -/
def blockOnceWrong : ChangeSpec := { name := "blockOnce", fn := fun _ => fun
  | [d1, d2] => { results := [.lit (.bool false)], args := [d1, d2] }
  | _ => none }
def BlockOnceWrongFalsely : Prop := blockOnceRow.holds Try.pinned (OpenSpec.ofChange blockOnceWrong)

/-- 'tracerylaw11.BlockPlays': WHATEVER THE INPUT: true; the input reads as it did. -/
def blockPlaysSpec : ChangeSpec := { name := "blockPlays", fn := fun _ => fun
  | [d1, d2, d3] => { results := [.lit (.bool true)], args := [d1, d2, d3] }
  | _ => none }
def blockPlaysRow : OpenClaim := { program := "ytahonnlgkmimlaa", sum := "2cd5dd7b439109f8b1bb7b8ad56f4d5732dff5964ca5e54773fe0c0e42b551e1", func := "tracery/tracerylaw11.BlockPlays", spec := "blockPlays", unfollowed := true, recurses := true, apart := false }
def BlockPlaysSaid : Prop := blockPlaysRow.holds Try.pinned (OpenSpec.ofChange blockPlaysSpec)

/-- ITS FALSE NEIGHBOUR: 'it returns false'. Refute it at one input. -/
def blockPlaysWrong : ChangeSpec := { name := "blockPlays", fn := fun _ => fun
  | [d1, d2, d3] => { results := [.lit (.bool false)], args := [d1, d2, d3] }
  | _ => none }
def BlockPlaysWrongFalsely : Prop := blockPlaysRow.holds Try.pinned (OpenSpec.ofChange blockPlaysWrong)

/-- 'tracerylaw11.BlockSolid': WHATEVER THE INPUT: true; the input reads as it did. -/
def blockSolidSpec : ChangeSpec := { name := "blockSolid", fn := fun _ => fun
  | [d1, d2, d3] => { results := [.lit (.bool true)], args := [d1, d2, d3] }
  | _ => none }
def blockSolidRow : OpenClaim := { program := "ytahonnlgkmimlaa", sum := "2cd5dd7b439109f8b1bb7b8ad56f4d5732dff5964ca5e54773fe0c0e42b551e1", func := "tracery/tracerylaw11.BlockSolid", spec := "blockSolid", unfollowed := true, recurses := true, apart := false }
def BlockSolidSaid : Prop := blockSolidRow.holds Try.pinned (OpenSpec.ofChange blockSolidSpec)

/-- ITS FALSE NEIGHBOUR: 'it returns false'. Refute it at one input. -/
def blockSolidWrong : ChangeSpec := { name := "blockSolid", fn := fun _ => fun
  | [d1, d2, d3] => { results := [.lit (.bool false)], args := [d1, d2, d3] }
  | _ => none }
def BlockSolidWrongFalsely : Prop := blockSolidRow.holds Try.pinned (OpenSpec.ofChange blockSolidWrong)

/-- 'tracerylaw14.PairClasses': WHATEVER THE INPUT: true; the input reads as it did. -/
def pairClassesSpec : ChangeSpec := { name := "pairClasses", fn := fun _ => fun
  | [d1, d2, d3] => { results := [.lit (.bool true)], args := [d1, d2, d3] }
  | _ => none }
def pairClassesRow : OpenClaim := { program := "ytahonnlgkmimlaa", sum := "2cd5dd7b439109f8b1bb7b8ad56f4d5732dff5964ca5e54773fe0c0e42b551e1", func := "tracery/tracerylaw14.PairClasses", spec := "pairClasses", unfollowed := true, recurses := true, apart := false }
def PairClassesSaid : Prop := pairClassesRow.holds Try.pinned (OpenSpec.ofChange pairClassesSpec)

/-- ITS FALSE NEIGHBOUR: 'it returns false'. Refute it at one input. -/
def pairClassesWrong : ChangeSpec := { name := "pairClasses", fn := fun _ => fun
  | [d1, d2, d3] => { results := [.lit (.bool false)], args := [d1, d2, d3] }
  | _ => none }
def PairClassesWrongFalsely : Prop := pairClassesRow.holds Try.pinned (OpenSpec.ofChange pairClassesWrong)

/-- 'tracerylaw14.PairKinds': WHATEVER THE INPUT: true; the input reads as it did. -/
def pairKindsSpec : ChangeSpec := { name := "pairKinds", fn := fun _ => fun
  | [d] => { results := [.lit (.bool true)], args := [d] }
  | _ => none }
def pairKindsRow : OpenClaim := { program := "ytahonnlgkmimlaa", sum := "2cd5dd7b439109f8b1bb7b8ad56f4d5732dff5964ca5e54773fe0c0e42b551e1", func := "tracery/tracerylaw14.PairKinds", spec := "pairKinds", unfollowed := true, recurses := true, apart := false }
def PairKindsSaid : Prop := pairKindsRow.holds Try.pinned (OpenSpec.ofChange pairKindsSpec)

/-- ITS FALSE NEIGHBOUR: 'it returns false'. Refute it at one input. -/
def pairKindsWrong : ChangeSpec := { name := "pairKinds", fn := fun _ => fun
  | [d] => { results := [.lit (.bool false)], args := [d] }
  | _ => none }
def PairKindsWrongFalsely : Prop := pairKindsRow.holds Try.pinned (OpenSpec.ofChange pairKindsWrong)

/-- 'tracerylaw14.PairRigid': WHATEVER THE INPUT: true; the input reads as it did. -/
def pairRigidSpec : ChangeSpec := { name := "pairRigid", fn := fun _ => fun
  | [d] => { results := [.lit (.bool true)], args := [d] }
  | _ => none }
def pairRigidRow : OpenClaim := { program := "ytahonnlgkmimlaa", sum := "2cd5dd7b439109f8b1bb7b8ad56f4d5732dff5964ca5e54773fe0c0e42b551e1", func := "tracery/tracerylaw14.PairRigid", spec := "pairRigid", unfollowed := true, recurses := true, apart := false }
def PairRigidSaid : Prop := pairRigidRow.holds Try.pinned (OpenSpec.ofChange pairRigidSpec)

/-- ITS FALSE NEIGHBOUR: 'it returns false'. Refute it at one input. -/
def pairRigidWrong : ChangeSpec := { name := "pairRigid", fn := fun _ => fun
  | [d] => { results := [.lit (.bool false)], args := [d] }
  | _ => none }
def PairRigidWrongFalsely : Prop := pairRigidRow.holds Try.pinned (OpenSpec.ofChange pairRigidWrong)

/-- 'tracerylaw14.PairCuts': WHATEVER THE INPUT: true; the input reads as it did. -/
def pairCutsSpec : ChangeSpec := { name := "pairCuts", fn := fun _ => fun
  | [d1, d2] => { results := [.lit (.bool true)], args := [d1, d2] }
  | _ => none }
def pairCutsRow : OpenClaim := { program := "ytahonnlgkmimlaa", sum := "2cd5dd7b439109f8b1bb7b8ad56f4d5732dff5964ca5e54773fe0c0e42b551e1", func := "tracery/tracerylaw14.PairCuts", spec := "pairCuts", unfollowed := true, recurses := true, apart := false }
def PairCutsSaid : Prop := pairCutsRow.holds Try.pinned (OpenSpec.ofChange pairCutsSpec)

/-- ITS FALSE NEIGHBOUR: 'it returns false'. Refute it at one input. -/
def pairCutsWrong : ChangeSpec := { name := "pairCuts", fn := fun _ => fun
  | [d1, d2] => { results := [.lit (.bool false)], args := [d1, d2] }
  | _ => none }
def PairCutsWrongFalsely : Prop := pairCutsRow.holds Try.pinned (OpenSpec.ofChange pairCutsWrong)

/-- 'tracerylaw14.PairTakes': WHATEVER THE INPUT: true; the input reads as it did. -/
def pairTakesSpec : ChangeSpec := { name := "pairTakes", fn := fun _ => fun
  | [d1, d2, d3, d4, d5] => { results := [.lit (.bool true)], args := [d1, d2, d3, d4, d5] }
  | _ => none }
def pairTakesRow : OpenClaim := { program := "ytahonnlgkmimlaa", sum := "2cd5dd7b439109f8b1bb7b8ad56f4d5732dff5964ca5e54773fe0c0e42b551e1", func := "tracery/tracerylaw14.PairTakes", spec := "pairTakes", unfollowed := true, recurses := true, apart := false }
def PairTakesSaid : Prop := pairTakesRow.holds Try.pinned (OpenSpec.ofChange pairTakesSpec)

/-- ITS FALSE NEIGHBOUR: 'it returns false'. Refute it at one input. -/
def pairTakesWrong : ChangeSpec := { name := "pairTakes", fn := fun _ => fun
  | [d1, d2, d3, d4, d5] => { results := [.lit (.bool false)], args := [d1, d2, d3, d4, d5] }
  | _ => none }
def PairTakesWrongFalsely : Prop := pairTakesRow.holds Try.pinned (OpenSpec.ofChange pairTakesWrong)

/- THE SECOND FORM. 'bulk': how many values and letters a reading holds, each counted each time it is reached (what is shared counts as often as it is met; a slice's spare places count too). A statement '..UptoSaid' is the law's where the arguments, and the package variables that the reading takes, are together of bulk at most 1048576: NARROWER than '..Said'. Prove '..Said' where nothing that the law and all that it calls make is longer than what came in: it says more and counts as full. Else prove '..UptoSaid'. A law counts once. -/
mutual
def uptoBulk {H : Type} : DataW H → Nat
  | .lit (.string bytes) => bytes.length + 1
  | .lit _ => 1
  | .nil => 1
  | .ptr d => uptoBulk d + 1
  | .slice elems spare => uptoBulkAll elems + uptoBulkAll spare + 1
  | .agg parts => uptoBulkAll parts + 1
  | .iface _ d => uptoBulk d + 1
  | .map entries => uptoBulkEntries entries + 1
  | .held _ => 1
def uptoBulkAll {H : Type} : List (DataW H) → Nat
  | [] => 0
  | d :: r => uptoBulk d + uptoBulkAll r
def uptoBulkEntries {H : Type} : List (Lit × DataW H) → Nat
  | [] => 0
  | x :: r => uptoBulkEntry x + uptoBulkEntries r
def uptoBulkEntry {H : Type} : Lit × DataW H → Nat
  | (.string bytes, d) => bytes.length + uptoBulk d + 1
  | (_, d) => uptoBulk d + 1
 end
def uptoSmall : (H : Type) → List (DataW H) → Bool := fun _ ds => decide (uptoBulkAll ds ≤ 1048576)
def OpenSpec.upto (s : _root_.Go.ChangeSpec) : _root_.Go.OpenSpec := { _root_.Go.OpenSpec.ofChange s with cond := some uptoSmall }

/-- 'tracerylaw04.GraphTwins', WHERE WHAT IT READS IS OF BULK AT MOST 1048576: true; the input reads as it did. -/
def graphTwinsUptoRow : OpenClaim := { program := "ytahonnlgkmimlaa", sum := "2cd5dd7b439109f8b1bb7b8ad56f4d5732dff5964ca5e54773fe0c0e42b551e1", func := "tracery/tracerylaw04.GraphTwins", spec := "graphTwins", recurses := true, apart := false, narrowed := true }
def GraphTwinsUptoSaid : Prop := graphTwinsUptoRow.holds Try.pinned (OpenSpec.upto graphTwinsSpec)

/-- 'tracerylaw04.GraphSpans', WHERE WHAT IT READS IS OF BULK AT MOST 1048576: true; the input reads as it did. -/
def graphSpansUptoRow : OpenClaim := { program := "ytahonnlgkmimlaa", sum := "2cd5dd7b439109f8b1bb7b8ad56f4d5732dff5964ca5e54773fe0c0e42b551e1", func := "tracery/tracerylaw04.GraphSpans", spec := "graphSpans", recurses := true, apart := false, narrowed := true }
def GraphSpansUptoSaid : Prop := graphSpansUptoRow.holds Try.pinned (OpenSpec.upto graphSpansSpec)

/-- 'tracerylaw04.GraphRights', WHERE WHAT IT READS IS OF BULK AT MOST 1048576: true; the input reads as it did. -/
def graphRightsUptoRow : OpenClaim := { program := "ytahonnlgkmimlaa", sum := "2cd5dd7b439109f8b1bb7b8ad56f4d5732dff5964ca5e54773fe0c0e42b551e1", func := "tracery/tracerylaw04.GraphRights", spec := "graphRights", recurses := true, apart := false, narrowed := true }
def GraphRightsUptoSaid : Prop := graphRightsUptoRow.holds Try.pinned (OpenSpec.upto graphRightsSpec)

/-- 'tracerylaw04.GraphPuts', WHERE WHAT IT READS IS OF BULK AT MOST 1048576: true; the input reads as it did. -/
def graphPutsUptoRow : OpenClaim := { program := "ytahonnlgkmimlaa", sum := "2cd5dd7b439109f8b1bb7b8ad56f4d5732dff5964ca5e54773fe0c0e42b551e1", func := "tracery/tracerylaw04.GraphPuts", spec := "graphPuts", recurses := true, apart := false, narrowed := true }
def GraphPutsUptoSaid : Prop := graphPutsUptoRow.holds Try.pinned (OpenSpec.upto graphPutsSpec)

/-- 'tracerylaw04.GraphParts', WHERE WHAT IT READS IS OF BULK AT MOST 1048576: true; the input reads as it did. -/
def graphPartsUptoRow : OpenClaim := { program := "ytahonnlgkmimlaa", sum := "2cd5dd7b439109f8b1bb7b8ad56f4d5732dff5964ca5e54773fe0c0e42b551e1", func := "tracery/tracerylaw04.GraphParts", spec := "graphParts", recurses := true, apart := false, narrowed := true }
def GraphPartsUptoSaid : Prop := graphPartsUptoRow.holds Try.pinned (OpenSpec.upto graphPartsSpec)

/-- 'tracerylaw04.GraphLists', WHERE WHAT IT READS IS OF BULK AT MOST 1048576: true; the input reads as it did. -/
def graphListsUptoRow : OpenClaim := { program := "ytahonnlgkmimlaa", sum := "2cd5dd7b439109f8b1bb7b8ad56f4d5732dff5964ca5e54773fe0c0e42b551e1", func := "tracery/tracerylaw04.GraphLists", spec := "graphLists", recurses := true, apart := false, narrowed := true }
def GraphListsUptoSaid : Prop := graphListsUptoRow.holds Try.pinned (OpenSpec.upto graphListsSpec)

/-- 'tracerylaw11.BlockOnce', WHERE WHAT IT READS IS OF BULK AT MOST 1048576: true; the input reads as it did. -/
def blockOnceUptoRow : OpenClaim := { program := "ytahonnlgkmimlaa", sum := "2cd5dd7b439109f8b1bb7b8ad56f4d5732dff5964ca5e54773fe0c0e42b551e1", func := "tracery/tracerylaw11.BlockOnce", spec := "blockOnce", unfollowed := true, recurses := true, apart := false, narrowed := true }
def BlockOnceUptoSaid : Prop := blockOnceUptoRow.holds Try.pinned (OpenSpec.upto blockOnceSpec)

/-- 'tracerylaw11.BlockPlays', WHERE WHAT IT READS IS OF BULK AT MOST 1048576: true; the input reads as it did. -/
def blockPlaysUptoRow : OpenClaim := { program := "ytahonnlgkmimlaa", sum := "2cd5dd7b439109f8b1bb7b8ad56f4d5732dff5964ca5e54773fe0c0e42b551e1", func := "tracery/tracerylaw11.BlockPlays", spec := "blockPlays", unfollowed := true, recurses := true, apart := false, narrowed := true }
def BlockPlaysUptoSaid : Prop := blockPlaysUptoRow.holds Try.pinned (OpenSpec.upto blockPlaysSpec)

/-- 'tracerylaw11.BlockSolid', WHERE WHAT IT READS IS OF BULK AT MOST 1048576: true; the input reads as it did. -/
def blockSolidUptoRow : OpenClaim := { program := "ytahonnlgkmimlaa", sum := "2cd5dd7b439109f8b1bb7b8ad56f4d5732dff5964ca5e54773fe0c0e42b551e1", func := "tracery/tracerylaw11.BlockSolid", spec := "blockSolid", unfollowed := true, recurses := true, apart := false, narrowed := true }
def BlockSolidUptoSaid : Prop := blockSolidUptoRow.holds Try.pinned (OpenSpec.upto blockSolidSpec)

/-- 'tracerylaw14.PairClasses', WHERE WHAT IT READS IS OF BULK AT MOST 1048576: true; the input reads as it did. -/
def pairClassesUptoRow : OpenClaim := { program := "ytahonnlgkmimlaa", sum := "2cd5dd7b439109f8b1bb7b8ad56f4d5732dff5964ca5e54773fe0c0e42b551e1", func := "tracery/tracerylaw14.PairClasses", spec := "pairClasses", unfollowed := true, recurses := true, apart := false, narrowed := true }
def PairClassesUptoSaid : Prop := pairClassesUptoRow.holds Try.pinned (OpenSpec.upto pairClassesSpec)

/-- 'tracerylaw14.PairKinds', WHERE WHAT IT READS IS OF BULK AT MOST 1048576: true; the input reads as it did. -/
def pairKindsUptoRow : OpenClaim := { program := "ytahonnlgkmimlaa", sum := "2cd5dd7b439109f8b1bb7b8ad56f4d5732dff5964ca5e54773fe0c0e42b551e1", func := "tracery/tracerylaw14.PairKinds", spec := "pairKinds", unfollowed := true, recurses := true, apart := false, narrowed := true }
def PairKindsUptoSaid : Prop := pairKindsUptoRow.holds Try.pinned (OpenSpec.upto pairKindsSpec)

/-- 'tracerylaw14.PairRigid', WHERE WHAT IT READS IS OF BULK AT MOST 1048576: true; the input reads as it did. -/
def pairRigidUptoRow : OpenClaim := { program := "ytahonnlgkmimlaa", sum := "2cd5dd7b439109f8b1bb7b8ad56f4d5732dff5964ca5e54773fe0c0e42b551e1", func := "tracery/tracerylaw14.PairRigid", spec := "pairRigid", unfollowed := true, recurses := true, apart := false, narrowed := true }
def PairRigidUptoSaid : Prop := pairRigidUptoRow.holds Try.pinned (OpenSpec.upto pairRigidSpec)

/-- 'tracerylaw14.PairCuts', WHERE WHAT IT READS IS OF BULK AT MOST 1048576: true; the input reads as it did. -/
def pairCutsUptoRow : OpenClaim := { program := "ytahonnlgkmimlaa", sum := "2cd5dd7b439109f8b1bb7b8ad56f4d5732dff5964ca5e54773fe0c0e42b551e1", func := "tracery/tracerylaw14.PairCuts", spec := "pairCuts", unfollowed := true, recurses := true, apart := false, narrowed := true }
def PairCutsUptoSaid : Prop := pairCutsUptoRow.holds Try.pinned (OpenSpec.upto pairCutsSpec)

/-- 'tracerylaw14.PairTakes', WHERE WHAT IT READS IS OF BULK AT MOST 1048576: true; the input reads as it did. -/
def pairTakesUptoRow : OpenClaim := { program := "ytahonnlgkmimlaa", sum := "2cd5dd7b439109f8b1bb7b8ad56f4d5732dff5964ca5e54773fe0c0e42b551e1", func := "tracery/tracerylaw14.PairTakes", spec := "pairTakes", unfollowed := true, recurses := true, apart := false, narrowed := true }
def PairTakesUptoSaid : Prop := pairTakesUptoRow.holds Try.pinned (OpenSpec.upto pairTakesSpec)

end Rows
end Go.Proofs.Ytahonnlgkmimlaa
