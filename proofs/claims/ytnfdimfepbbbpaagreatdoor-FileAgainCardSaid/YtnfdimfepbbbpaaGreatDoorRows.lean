/-
  NARROWER THAN 'FOR EVERY INPUT', by the rows' own cells (each row's printed sentence says how): FileBack: laid · FileAgain: laid · FilePrints: laid · FileCases: laid.
  DERIVED. THE GIVEN ROWS OF THIS SEAT. 4 by the template 'for every input the law returns true; each argument reads behind the call as it read before'; 0 by the template 'total and deterministic' (their statements: YtnfdimfepbbbpaaGreatDoorTotals.lean).
  GIVEN WITH THE SEED: the statements are not yours to turn. If you find one false, say at which input.
  Laid BY PROGRAM, IN A SANDBOX (cutbox-rows.mjs): the forced cells as the released guide's own fill.sh prints them over the translation 04a0dd5595f14c7f… (all of the seat's roots in one cut). By AI agents, Wed Nov 11 2026. No macro, syntax, notation, axiom, sorry.
-/
import Derived.Test.YtnfdimfepbbbpaaGreatDoorChecked
import GoSem.PinnedTables
import GoSem.Claim
import GoSem.ClaimJoined
import GoSem.ClaimMapViews
import Derived.JoinedTies
import Derived.KernelRfl
namespace Go.Proofs.YtnfdimfepbbbpaaGreatDoor
/- THE CELL 'sum', in the pinned program and in every row, IS THE sha256 OF THE DUMP (.gsa) THAT YtnfdimfepbbbpaaGreatDoorProg.lean LOADS. Nothing in Lean hashes anything: it is a label: what it is worth is what the hold of that sum in a sandbox is worth. -/
noncomputable def Tryz.pinned : Pinned := { name := "ytnfdimfepbbbpaagreatdoor", sum := "04a0dd5595f14c7f23ff37fd37cbb38e25757c316f0668fe553b680a2641afdb", checked := Tryz.checked }
namespace Rows
def none {H : Type} : Left H := { results := [], args := [] }

/- WHAT THE LISTED PACKAGE-LEVEL VARIABLES READ AS WHEN THE CALL BEGINS. Each datum BY PROGRAM (the guide's laid-datum.mjs) off the statement by which the dump's own 'gosem.cut.vars' lays the variable. In a bare row this is a premise. The card (YtnfdimfepbbbpaaGreatDoorCards.lean) ties it to the program's text. -/
def laid_unicode_utf8_acceptRanges {H : Type} : DataW H := .agg [.agg [.lit (.int .u8 128), .lit (.int .u8 191)], .agg [.lit (.int .u8 160), .lit (.int .u8 191)], .agg [.lit (.int .u8 128), .lit (.int .u8 159)], .agg [.lit (.int .u8 144), .lit (.int .u8 191)], .agg [.lit (.int .u8 128), .lit (.int .u8 143)], .agg [.lit (.int .u8 0), .lit (.int .u8 0)], .agg [.lit (.int .u8 0), .lit (.int .u8 0)], .agg [.lit (.int .u8 0), .lit (.int .u8 0)], .agg [.lit (.int .u8 0), .lit (.int .u8 0)], .agg [.lit (.int .u8 0), .lit (.int .u8 0)], .agg [.lit (.int .u8 0), .lit (.int .u8 0)], .agg [.lit (.int .u8 0), .lit (.int .u8 0)], .agg [.lit (.int .u8 0), .lit (.int .u8 0)], .agg [.lit (.int .u8 0), .lit (.int .u8 0)], .agg [.lit (.int .u8 0), .lit (.int .u8 0)], .agg [.lit (.int .u8 0), .lit (.int .u8 0)]]
/-- One of Go's own tables, pinned by name: the form's constant. -/
def laid_unicode_utf8_first : DataW Unit := Go.Pinned.utf8First

/-- 'tracerylaw26.FileBack': WHATEVER THE INPUT: true; the input reads as it did. -/
def fileBackSpec : ChangeSpec := { name := "fileBack", fn := fun _ => fun
  | [d] => { results := [.lit (.bool true)], args := [d] }
  | _ => none }
def fileBackRow : OpenClaim := { program := "ytnfdimfepbbbpaagreatdoor", sum := "04a0dd5595f14c7f23ff37fd37cbb38e25757c316f0668fe553b680a2641afdb", func := "tracery/tracerylaw26.FileBack", spec := "fileBack", inPlace := ["internal/bytealg.IndexByteString", "internal/bytealg.IndexString", "internal/abi.NoEscape", "internal/bytealg.MakeNoZero"], unfollowed := true, recurses := true, named := ["unicode/utf8.first", "unicode/utf8.acceptRanges", "internal/bytealg.MaxLen"], apart := false, laid := [("unicode/utf8.acceptRanges", laid_unicode_utf8_acceptRanges), ("unicode/utf8.first", laid_unicode_utf8_first)] }
def FileBackSaid : Prop := fileBackRow.holds Tryz.pinned (OpenSpec.ofChange fileBackSpec)

/-- ITS FALSE NEIGHBOUR: 'it returns false'. Refute it at one input. -/
def fileBackWrong : ChangeSpec := { name := "fileBack", fn := fun _ => fun
  | [d] => { results := [.lit (.bool false)], args := [d] }
  | _ => none }
def FileBackWrongFalsely : Prop := fileBackRow.holds Tryz.pinned (OpenSpec.ofChange fileBackWrong)

/-- 'tracerylaw26.FileAgain': WHATEVER THE INPUT: true; the input reads as it did. -/
def fileAgainSpec : ChangeSpec := { name := "fileAgain", fn := fun _ => fun
  | [d] => { results := [.lit (.bool true)], args := [d] }
  | _ => none }
def fileAgainRow : OpenClaim := { program := "ytnfdimfepbbbpaagreatdoor", sum := "04a0dd5595f14c7f23ff37fd37cbb38e25757c316f0668fe553b680a2641afdb", func := "tracery/tracerylaw26.FileAgain", spec := "fileAgain", inPlace := ["internal/bytealg.IndexByteString", "internal/bytealg.IndexString", "internal/abi.NoEscape", "internal/bytealg.MakeNoZero"], unfollowed := true, recurses := true, named := ["unicode/utf8.first", "unicode/utf8.acceptRanges", "internal/bytealg.MaxLen"], apart := false, laid := [("unicode/utf8.acceptRanges", laid_unicode_utf8_acceptRanges), ("unicode/utf8.first", laid_unicode_utf8_first)] }
def FileAgainSaid : Prop := fileAgainRow.holds Tryz.pinned (OpenSpec.ofChange fileAgainSpec)

/-- ITS FALSE NEIGHBOUR: 'it returns false'. Refute it at one input. -/
def fileAgainWrong : ChangeSpec := { name := "fileAgain", fn := fun _ => fun
  | [d] => { results := [.lit (.bool false)], args := [d] }
  | _ => none }
def FileAgainWrongFalsely : Prop := fileAgainRow.holds Tryz.pinned (OpenSpec.ofChange fileAgainWrong)

/-- 'tracerylaw26.FilePrints': WHATEVER THE INPUT: true; the input reads as it did. -/
def filePrintsSpec : ChangeSpec := { name := "filePrints", fn := fun _ => fun
  | [d1, d2] => { results := [.lit (.bool true)], args := [d1, d2] }
  | _ => none }
def filePrintsRow : OpenClaim := { program := "ytnfdimfepbbbpaagreatdoor", sum := "04a0dd5595f14c7f23ff37fd37cbb38e25757c316f0668fe553b680a2641afdb", func := "tracery/tracerylaw26.FilePrints", spec := "filePrints", inPlace := ["internal/bytealg.IndexByteString", "internal/bytealg.IndexString", "internal/abi.NoEscape", "internal/bytealg.MakeNoZero"], unfollowed := true, recurses := true, named := ["unicode/utf8.first", "unicode/utf8.acceptRanges", "internal/bytealg.MaxLen"], apart := false, laid := [("unicode/utf8.acceptRanges", laid_unicode_utf8_acceptRanges), ("unicode/utf8.first", laid_unicode_utf8_first)] }
def FilePrintsSaid : Prop := filePrintsRow.holds Tryz.pinned (OpenSpec.ofChange filePrintsSpec)

/-- ITS FALSE NEIGHBOUR: 'it returns false'. Refute it at one input. -/
def filePrintsWrong : ChangeSpec := { name := "filePrints", fn := fun _ => fun
  | [d1, d2] => { results := [.lit (.bool false)], args := [d1, d2] }
  | _ => none }
def FilePrintsWrongFalsely : Prop := filePrintsRow.holds Tryz.pinned (OpenSpec.ofChange filePrintsWrong)

/-- 'tracerylaw26.FileCases': WHATEVER THE INPUT: true; the input reads as it did. -/
def fileCasesSpec : ChangeSpec := { name := "fileCases", fn := fun _ => fun
  | [d] => { results := [.lit (.bool true)], args := [d] }
  | _ => none }
def fileCasesRow : OpenClaim := { program := "ytnfdimfepbbbpaagreatdoor", sum := "04a0dd5595f14c7f23ff37fd37cbb38e25757c316f0668fe553b680a2641afdb", func := "tracery/tracerylaw26.FileCases", spec := "fileCases", inPlace := ["internal/bytealg.IndexByteString", "internal/bytealg.IndexString", "internal/abi.NoEscape", "internal/bytealg.MakeNoZero"], unfollowed := true, recurses := true, named := ["unicode/utf8.first", "unicode/utf8.acceptRanges", "internal/bytealg.MaxLen"], apart := false, laid := [("unicode/utf8.acceptRanges", laid_unicode_utf8_acceptRanges), ("unicode/utf8.first", laid_unicode_utf8_first)] }
def FileCasesSaid : Prop := fileCasesRow.holds Tryz.pinned (OpenSpec.ofChange fileCasesSpec)

/-- ITS FALSE NEIGHBOUR: 'it returns false'. Refute it at one input. -/
def fileCasesWrong : ChangeSpec := { name := "fileCases", fn := fun _ => fun
  | [d] => { results := [.lit (.bool false)], args := [d] }
  | _ => none }
def FileCasesWrongFalsely : Prop := fileCasesRow.holds Tryz.pinned (OpenSpec.ofChange fileCasesWrong)

/- THE SECOND FORM. 'bulk': how many values and letters a reading holds, each counted each time it is reached (what is shared counts as often as it is met; a slice's spare places count too). A statement '..UptoSaid' is the law's where the arguments, and the package variables that the reading takes, are together of bulk at most 1048576: NARROWER than '..Said'. Prove '..Said' where nothing that the law and all that it calls make is longer than what came in: it says more and counts as full. Else prove '..UptoSaid'. A law counts once. -/
mutual
def uptoBulk {H : Type} : DataW H → Nat
  | .lit (.string bytes) => bytes.length + 1
  | .lit _ => 1
  | .nil => 1
  | .ptr d => uptoBulk d + 1
  | .slice elems spare => uptoBulkAll elems + uptoBulkAll spare + 1
  | .agg parts => uptoBulkAll parts + 1
  | .iface _ d => uptoBulk d + 1
  | .map entries => uptoBulkEntries entries + 1
  | .held _ => 1
def uptoBulkAll {H : Type} : List (DataW H) → Nat
  | [] => 0
  | d :: r => uptoBulk d + uptoBulkAll r
def uptoBulkEntries {H : Type} : List (Lit × DataW H) → Nat
  | [] => 0
  | x :: r => uptoBulkEntry x + uptoBulkEntries r
def uptoBulkEntry {H : Type} : Lit × DataW H → Nat
  | (.string bytes, d) => bytes.length + uptoBulk d + 1
  | (_, d) => uptoBulk d + 1
 end
def uptoSmall : (H : Type) → List (DataW H) → Bool := fun _ ds => decide (uptoBulkAll ds ≤ 1048576)
def OpenSpec.upto (s : _root_.Go.ChangeSpec) : _root_.Go.OpenSpec := { _root_.Go.OpenSpec.ofChange s with cond := some uptoSmall }

/-- 'tracerylaw26.FileBack', WHERE WHAT IT READS IS OF BULK AT MOST 1048576: true; the input reads as it did. -/
def fileBackUptoRow : OpenClaim := { program := "ytnfdimfepbbbpaagreatdoor", sum := "04a0dd5595f14c7f23ff37fd37cbb38e25757c316f0668fe553b680a2641afdb", func := "tracery/tracerylaw26.FileBack", spec := "fileBack", inPlace := ["internal/bytealg.IndexByteString", "internal/bytealg.IndexString", "internal/abi.NoEscape", "internal/bytealg.MakeNoZero"], unfollowed := true, recurses := true, named := ["unicode/utf8.first", "unicode/utf8.acceptRanges", "internal/bytealg.MaxLen"], apart := false, laid := [("unicode/utf8.acceptRanges", laid_unicode_utf8_acceptRanges), ("unicode/utf8.first", laid_unicode_utf8_first)], narrowed := true }
def FileBackUptoSaid : Prop := fileBackUptoRow.holds Tryz.pinned (OpenSpec.upto fileBackSpec)

/-- 'tracerylaw26.FileAgain', WHERE WHAT IT READS IS OF BULK AT MOST 1048576: true; the input reads as it did. -/
def fileAgainUptoRow : OpenClaim := { program := "ytnfdimfepbbbpaagreatdoor", sum := "04a0dd5595f14c7f23ff37fd37cbb38e25757c316f0668fe553b680a2641afdb", func := "tracery/tracerylaw26.FileAgain", spec := "fileAgain", inPlace := ["internal/bytealg.IndexByteString", "internal/bytealg.IndexString", "internal/abi.NoEscape", "internal/bytealg.MakeNoZero"], unfollowed := true, recurses := true, named := ["unicode/utf8.first", "unicode/utf8.acceptRanges", "internal/bytealg.MaxLen"], apart := false, laid := [("unicode/utf8.acceptRanges", laid_unicode_utf8_acceptRanges), ("unicode/utf8.first", laid_unicode_utf8_first)], narrowed := true }
def FileAgainUptoSaid : Prop := fileAgainUptoRow.holds Tryz.pinned (OpenSpec.upto fileAgainSpec)

/-- 'tracerylaw26.FilePrints', WHERE WHAT IT READS IS OF BULK AT MOST 1048576: true; the input reads as it did. -/
def filePrintsUptoRow : OpenClaim := { program := "ytnfdimfepbbbpaagreatdoor", sum := "04a0dd5595f14c7f23ff37fd37cbb38e25757c316f0668fe553b680a2641afdb", func := "tracery/tracerylaw26.FilePrints", spec := "filePrints", inPlace := ["internal/bytealg.IndexByteString", "internal/bytealg.IndexString", "internal/abi.NoEscape", "internal/bytealg.MakeNoZero"], unfollowed := true, recurses := true, named := ["unicode/utf8.first", "unicode/utf8.acceptRanges", "internal/bytealg.MaxLen"], apart := false, laid := [("unicode/utf8.acceptRanges", laid_unicode_utf8_acceptRanges), ("unicode/utf8.first", laid_unicode_utf8_first)], narrowed := true }
def FilePrintsUptoSaid : Prop := filePrintsUptoRow.holds Tryz.pinned (OpenSpec.upto filePrintsSpec)

/-- 'tracerylaw26.FileCases', WHERE WHAT IT READS IS OF BULK AT MOST 1048576: true; the input reads as it did. -/
def fileCasesUptoRow : OpenClaim := { program := "ytnfdimfepbbbpaagreatdoor", sum := "04a0dd5595f14c7f23ff37fd37cbb38e25757c316f0668fe553b680a2641afdb", func := "tracery/tracerylaw26.FileCases", spec := "fileCases", inPlace := ["internal/bytealg.IndexByteString", "internal/bytealg.IndexString", "internal/abi.NoEscape", "internal/bytealg.MakeNoZero"], unfollowed := true, recurses := true, named := ["unicode/utf8.first", "unicode/utf8.acceptRanges", "internal/bytealg.MaxLen"], apart := false, laid := [("unicode/utf8.acceptRanges", laid_unicode_utf8_acceptRanges), ("unicode/utf8.first", laid_unicode_utf8_first)], narrowed := true }
def FileCasesUptoSaid : Prop := fileCasesUptoRow.holds Tryz.pinned (OpenSpec.upto fileCasesSpec)

end Rows
end Go.Proofs.YtnfdimfepbbbpaaGreatDoor
