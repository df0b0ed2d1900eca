/-
  No cell of these rows narrows 'for every input' (looked for: loops, veiled, ifaces, maps, wideKeys, modest, calm, conditions, laid).
  DERIVED. THE GIVEN ROWS OF THIS SEAT. 6 by the template 'for every input the law returns true; each argument reads behind the call as it read before'; 0 by the template 'total and deterministic' (their statements: YtbdgelipabndaaaTotals.lean).
  GIVEN WITH THE SEED: the statements are not yours to turn. If you find one false, say at which input.
  Laid BY PROGRAM, IN A SANDBOX (cutbox-rows.mjs): the forced cells as the released guide's own fill.sh prints them over the translation a4381e47dc8b1e0b… (all of the seat's roots in one cut). By AI agents, Wed Nov 11 2026. No macro, syntax, notation, axiom, sorry.
-/
import Derived.Test.YtbdgelipabndaaaChecked
import GoSem.Claim
import GoSem.ClaimJoined
import GoSem.ClaimMapViews
import Derived.JoinedTies
import Derived.KernelRfl
namespace Go.Proofs.Ytbdgelipabndaaa
/- THE CELL 'sum', in the pinned program and in every row, IS THE sha256 OF THE DUMP (.gsa) THAT YtbdgelipabndaaaProg.lean LOADS. Nothing in Lean hashes anything: it is a label: what it is worth is what the hold of that sum in a sandbox is worth. -/
noncomputable def Try.pinned : Pinned := { name := "ytbdgelipabndaaa", sum := "a4381e47dc8b1e0b7559718f9a29ed58bf1ab986316319cd00c0e87a1362e901", checked := Try.checked }
namespace Rows
def none {H : Type} : Left H := { results := [], args := [] }

/-- 'tracerylaw01.WordWhole': WHATEVER THE INPUT: true; the input reads as it did. -/
def wordWholeSpec : ChangeSpec := { name := "wordWhole", fn := fun _ => fun
  | [d] => { results := [.lit (.bool true)], args := [d] }
  | _ => none }
def wordWholeRow : OpenClaim := { program := "ytbdgelipabndaaa", sum := "a4381e47dc8b1e0b7559718f9a29ed58bf1ab986316319cd00c0e87a1362e901", func := "tracery/tracerylaw01.WordWhole", spec := "wordWhole", apart := false }
def WordWholeSaid : Prop := wordWholeRow.holds Try.pinned (OpenSpec.ofChange wordWholeSpec)

/-- ITS FALSE NEIGHBOUR: 'it returns false'. Refute it at one input. -/
def wordWholeWrong : ChangeSpec := { name := "wordWhole", fn := fun _ => fun
  | [d] => { results := [.lit (.bool false)], args := [d] }
  | _ => none }
def WordWholeWrongFalsely : Prop := wordWholeRow.holds Try.pinned (OpenSpec.ofChange wordWholeWrong)

/-- 'tracerylaw01.WordPrefix': WHATEVER THE INPUT: true; the input reads as it did. -/
def wordPrefixSpec : ChangeSpec := { name := "wordPrefix", fn := fun _ => fun
  | [d1, d2] => { results := [.lit (.bool true)], args := [d1, d2] }
  | _ => none }
def wordPrefixRow : OpenClaim := { program := "ytbdgelipabndaaa", sum := "a4381e47dc8b1e0b7559718f9a29ed58bf1ab986316319cd00c0e87a1362e901", func := "tracery/tracerylaw01.WordPrefix", spec := "wordPrefix", apart := false }
def WordPrefixSaid : Prop := wordPrefixRow.holds Try.pinned (OpenSpec.ofChange wordPrefixSpec)

/-- ITS FALSE NEIGHBOUR: 'it returns false'. Refute it at one input. -/
def wordPrefixWrong : ChangeSpec := { name := "wordPrefix", fn := fun _ => fun
  | [d1, d2] => { results := [.lit (.bool false)], args := [d1, d2] }
  | _ => none }
def WordPrefixWrongFalsely : Prop := wordPrefixRow.holds Try.pinned (OpenSpec.ofChange wordPrefixWrong)

/-- 'tracerylaw01.WordSplits': WHATEVER THE INPUT: true; the input reads as it did. -/
def wordSplitsSpec : ChangeSpec := { name := "wordSplits", fn := fun _ => fun
  | [d] => { results := [.lit (.bool true)], args := [d] }
  | _ => none }
def wordSplitsRow : OpenClaim := { program := "ytbdgelipabndaaa", sum := "a4381e47dc8b1e0b7559718f9a29ed58bf1ab986316319cd00c0e87a1362e901", func := "tracery/tracerylaw01.WordSplits", spec := "wordSplits", apart := false }
def WordSplitsSaid : Prop := wordSplitsRow.holds Try.pinned (OpenSpec.ofChange wordSplitsSpec)

/-- ITS FALSE NEIGHBOUR: 'it returns false'. Refute it at one input. -/
def wordSplitsWrong : ChangeSpec := { name := "wordSplits", fn := fun _ => fun
  | [d] => { results := [.lit (.bool false)], args := [d] }
  | _ => none }
def WordSplitsWrongFalsely : Prop := wordSplitsRow.holds Try.pinned (OpenSpec.ofChange wordSplitsWrong)

/-- 'tracerylaw01.WordClasses': WHATEVER THE INPUT: true; the input reads as it did. -/
def wordClassesSpec : ChangeSpec := { name := "wordClasses", fn := fun _ => fun
  | [d1, d2] => { results := [.lit (.bool true)], args := [d1, d2] }
  | _ => none }
def wordClassesRow : OpenClaim := { program := "ytbdgelipabndaaa", sum := "a4381e47dc8b1e0b7559718f9a29ed58bf1ab986316319cd00c0e87a1362e901", func := "tracery/tracerylaw01.WordClasses", spec := "wordClasses", apart := false }
def WordClassesSaid : Prop := wordClassesRow.holds Try.pinned (OpenSpec.ofChange wordClassesSpec)

/-- ITS FALSE NEIGHBOUR: 'it returns false'. Refute it at one input. -/
def wordClassesWrong : ChangeSpec := { name := "wordClasses", fn := fun _ => fun
  | [d1, d2] => { results := [.lit (.bool false)], args := [d1, d2] }
  | _ => none }
def WordClassesWrongFalsely : Prop := wordClassesRow.holds Try.pinned (OpenSpec.ofChange wordClassesWrong)

/-- 'tracerylaw01.WordNumbers': WHATEVER THE INPUT: true; the input reads as it did. -/
def wordNumbersSpec : ChangeSpec := { name := "wordNumbers", fn := fun _ => fun
  | [d1, d2] => { results := [.lit (.bool true)], args := [d1, d2] }
  | _ => none }
def wordNumbersRow : OpenClaim := { program := "ytbdgelipabndaaa", sum := "a4381e47dc8b1e0b7559718f9a29ed58bf1ab986316319cd00c0e87a1362e901", func := "tracery/tracerylaw01.WordNumbers", spec := "wordNumbers", apart := false }
def WordNumbersSaid : Prop := wordNumbersRow.holds Try.pinned (OpenSpec.ofChange wordNumbersSpec)

/-- ITS FALSE NEIGHBOUR: 'it returns false'. Refute it at one input. -/
def wordNumbersWrong : ChangeSpec := { name := "wordNumbers", fn := fun _ => fun
  | [d1, d2] => { results := [.lit (.bool false)], args := [d1, d2] }
  | _ => none }
def WordNumbersWrongFalsely : Prop := wordNumbersRow.holds Try.pinned (OpenSpec.ofChange wordNumbersWrong)

/-- 'tracerylaw01.WordLines': WHATEVER THE INPUT: true; the input reads as it did. -/
def wordLinesSpec : ChangeSpec := { name := "wordLines", fn := fun _ => fun
  | [d1, d2] => { results := [.lit (.bool true)], args := [d1, d2] }
  | _ => none }
def wordLinesRow : OpenClaim := { program := "ytbdgelipabndaaa", sum := "a4381e47dc8b1e0b7559718f9a29ed58bf1ab986316319cd00c0e87a1362e901", func := "tracery/tracerylaw01.WordLines", spec := "wordLines", unfollowed := true, recurses := true, apart := false }
def WordLinesSaid : Prop := wordLinesRow.holds Try.pinned (OpenSpec.ofChange wordLinesSpec)

/-- ITS FALSE NEIGHBOUR: 'it returns false'. Refute it at one input. -/
def wordLinesWrong : ChangeSpec := { name := "wordLines", fn := fun _ => fun
  | [d1, d2] => { results := [.lit (.bool false)], args := [d1, d2] }
  | _ => none }
def WordLinesWrongFalsely : Prop := wordLinesRow.holds Try.pinned (OpenSpec.ofChange wordLinesWrong)

/- THE SECOND FORM. 'bulk': how many values and letters a reading holds, each counted each time it is reached (what is shared counts as often as it is met; a slice's spare places count too). A statement '..UptoSaid' is the law's where the arguments, and the package variables that the reading takes, are together of bulk at most 1048576: NARROWER than '..Said'. Prove '..Said' where nothing that the law and all that it calls make is longer than what came in: it says more and counts as full. Else prove '..UptoSaid'. A law counts once. -/
mutual
def uptoBulk {H : Type} : DataW H → Nat
  | .lit (.string bytes) => bytes.length + 1
  | .lit _ => 1
  | .nil => 1
  | .ptr d => uptoBulk d + 1
  | .slice elems spare => uptoBulkAll elems + uptoBulkAll spare + 1
  | .agg parts => uptoBulkAll parts + 1
  | .iface _ d => uptoBulk d + 1
  | .map entries => uptoBulkEntries entries + 1
  | .held _ => 1
def uptoBulkAll {H : Type} : List (DataW H) → Nat
  | [] => 0
  | d :: r => uptoBulk d + uptoBulkAll r
def uptoBulkEntries {H : Type} : List (Lit × DataW H) → Nat
  | [] => 0
  | x :: r => uptoBulkEntry x + uptoBulkEntries r
def uptoBulkEntry {H : Type} : Lit × DataW H → Nat
  | (.string bytes, d) => bytes.length + uptoBulk d + 1
  | (_, d) => uptoBulk d + 1
 end
def uptoSmall : (H : Type) → List (DataW H) → Bool := fun _ ds => decide (uptoBulkAll ds ≤ 1048576)
def OpenSpec.upto (s : _root_.Go.ChangeSpec) : _root_.Go.OpenSpec := { _root_.Go.OpenSpec.ofChange s with cond := some uptoSmall }

/-- 'tracerylaw01.WordWhole', WHERE WHAT IT READS IS OF BULK AT MOST 1048576: true; the input reads as it did. -/
def wordWholeUptoRow : OpenClaim := { program := "ytbdgelipabndaaa", sum := "a4381e47dc8b1e0b7559718f9a29ed58bf1ab986316319cd00c0e87a1362e901", func := "tracery/tracerylaw01.WordWhole", spec := "wordWhole", apart := false, narrowed := true }
def WordWholeUptoSaid : Prop := wordWholeUptoRow.holds Try.pinned (OpenSpec.upto wordWholeSpec)

/-- 'tracerylaw01.WordPrefix', WHERE WHAT IT READS IS OF BULK AT MOST 1048576: true; the input reads as it did. -/
def wordPrefixUptoRow : OpenClaim := { program := "ytbdgelipabndaaa", sum := "a4381e47dc8b1e0b7559718f9a29ed58bf1ab986316319cd00c0e87a1362e901", func := "tracery/tracerylaw01.WordPrefix", spec := "wordPrefix", apart := false, narrowed := true }
def WordPrefixUptoSaid : Prop := wordPrefixUptoRow.holds Try.pinned (OpenSpec.upto wordPrefixSpec)

/-- 'tracerylaw01.WordSplits', WHERE WHAT IT READS IS OF BULK AT MOST 1048576: true; the input reads as it did. -/
def wordSplitsUptoRow : OpenClaim := { program := "ytbdgelipabndaaa", sum := "a4381e47dc8b1e0b7559718f9a29ed58bf1ab986316319cd00c0e87a1362e901", func := "tracery/tracerylaw01.WordSplits", spec := "wordSplits", apart := false, narrowed := true }
def WordSplitsUptoSaid : Prop := wordSplitsUptoRow.holds Try.pinned (OpenSpec.upto wordSplitsSpec)

/-- 'tracerylaw01.WordClasses', WHERE WHAT IT READS IS OF BULK AT MOST 1048576: true; the input reads as it did. -/
def wordClassesUptoRow : OpenClaim := { program := "ytbdgelipabndaaa", sum := "a4381e47dc8b1e0b7559718f9a29ed58bf1ab986316319cd00c0e87a1362e901", func := "tracery/tracerylaw01.WordClasses", spec := "wordClasses", apart := false, narrowed := true }
def WordClassesUptoSaid : Prop := wordClassesUptoRow.holds Try.pinned (OpenSpec.upto wordClassesSpec)

/-- 'tracerylaw01.WordNumbers', WHERE WHAT IT READS IS OF BULK AT MOST 1048576: true; the input reads as it did. -/
def wordNumbersUptoRow : OpenClaim := { program := "ytbdgelipabndaaa", sum := "a4381e47dc8b1e0b7559718f9a29ed58bf1ab986316319cd00c0e87a1362e901", func := "tracery/tracerylaw01.WordNumbers", spec := "wordNumbers", apart := false, narrowed := true }
def WordNumbersUptoSaid : Prop := wordNumbersUptoRow.holds Try.pinned (OpenSpec.upto wordNumbersSpec)

/-- 'tracerylaw01.WordLines', WHERE WHAT IT READS IS OF BULK AT MOST 1048576: true; the input reads as it did. -/
def wordLinesUptoRow : OpenClaim := { program := "ytbdgelipabndaaa", sum := "a4381e47dc8b1e0b7559718f9a29ed58bf1ab986316319cd00c0e87a1362e901", func := "tracery/tracerylaw01.WordLines", spec := "wordLines", unfollowed := true, recurses := true, apart := false, narrowed := true }
def WordLinesUptoSaid : Prop := wordLinesUptoRow.holds Try.pinned (OpenSpec.upto wordLinesSpec)

end Rows
end Go.Proofs.Ytbdgelipabndaaa
