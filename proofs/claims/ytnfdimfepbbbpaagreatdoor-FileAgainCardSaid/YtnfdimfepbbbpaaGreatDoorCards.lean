/-
  DERIVED. GIVEN WITH THE SEED: THE CARDS: each row of YtnfdimfepbbbpaaGreatDoorRows.lean that lists a variable, with what it lists TIED to the program's text (the seventh form; the later family's looks); each row that meets fmt, with fmt's text TOLD by the authors' own Lean function (tested against real Go, not proved from fmt's source: count such statements apart). THE CARD IS WHAT COUNTS. Prove the row's statement (the work); the ties are given (YtnfdimfepbbbpaaGreatDoorTie.lean); close each card by the builder's one call (the guide's Derived/Test/ToyasCard.lean, 'card_holds'). Laid BY PROGRAM, IN A SANDBOX (cutbox-door.mjs). By AI agents, Wed Nov 11 2026. No macro, syntax, notation, axiom, sorry.
-/
import Derived.Test.YtnfdimfepbbbpaaGreatDoorRows
import GoSem.ClaimSeven
namespace Go.Proofs.YtnfdimfepbbbpaaGreatDoor
namespace Rows

/-- THE TIED CARD OF 'tracerylaw26.FileBack'. -/
def fileBackCard : Claim7 := { stood := { row := fileBackRow, standIns := [], harness := (true, "b0c12dbdfb5377cc87e754d10e73bb53b77223e7fe1623db068c5b6716bf2ead"), looks := true }, kinds := [], alts := [], laidByText := true, laidKinds := [.data, .pinned], laidTests := true, laidLooks := .later }
def FileBackCardSaid : Prop := Claim7.holds Tryz.pinned (.plain (OpenSpec.ofChange fileBackSpec)) fileBackCard

/-- THE TIED CARD OF 'tracerylaw26.FileAgain'. -/
def fileAgainCard : Claim7 := { stood := { row := fileAgainRow, standIns := [], harness := (true, "b0c12dbdfb5377cc87e754d10e73bb53b77223e7fe1623db068c5b6716bf2ead"), looks := true }, kinds := [], alts := [], laidByText := true, laidKinds := [.data, .pinned], laidTests := true, laidLooks := .later }
def FileAgainCardSaid : Prop := Claim7.holds Tryz.pinned (.plain (OpenSpec.ofChange fileAgainSpec)) fileAgainCard

/-- THE TIED CARD OF 'tracerylaw26.FilePrints'. -/
def filePrintsCard : Claim7 := { stood := { row := filePrintsRow, standIns := [], harness := (true, "b0c12dbdfb5377cc87e754d10e73bb53b77223e7fe1623db068c5b6716bf2ead"), looks := true }, kinds := [], alts := [], laidByText := true, laidKinds := [.data, .pinned], laidTests := true, laidLooks := .later }
def FilePrintsCardSaid : Prop := Claim7.holds Tryz.pinned (.plain (OpenSpec.ofChange filePrintsSpec)) filePrintsCard

/-- THE TIED CARD OF 'tracerylaw26.FileCases'. -/
def fileCasesCard : Claim7 := { stood := { row := fileCasesRow, standIns := [], harness := (true, "b0c12dbdfb5377cc87e754d10e73bb53b77223e7fe1623db068c5b6716bf2ead"), looks := true }, kinds := [], alts := [], laidByText := true, laidKinds := [.data, .pinned], laidTests := true, laidLooks := .later }
def FileCasesCardSaid : Prop := Claim7.holds Tryz.pinned (.plain (OpenSpec.ofChange fileCasesSpec)) fileCasesCard

/-- THE SECOND FORM's CARD OF 'tracerylaw26.FileBack'. -/
def fileBackUptoCard : Claim7 := { stood := { row := fileBackUptoRow, standIns := [], harness := (true, "b0c12dbdfb5377cc87e754d10e73bb53b77223e7fe1623db068c5b6716bf2ead"), looks := true }, kinds := [], alts := [], laidByText := true, laidKinds := [.data, .pinned], laidTests := true, laidLooks := .later }
def FileBackUptoCardSaid : Prop := Claim7.holds Tryz.pinned (.plain (OpenSpec.upto fileBackSpec)) fileBackUptoCard

/-- THE SECOND FORM's CARD OF 'tracerylaw26.FileAgain'. -/
def fileAgainUptoCard : Claim7 := { stood := { row := fileAgainUptoRow, standIns := [], harness := (true, "b0c12dbdfb5377cc87e754d10e73bb53b77223e7fe1623db068c5b6716bf2ead"), looks := true }, kinds := [], alts := [], laidByText := true, laidKinds := [.data, .pinned], laidTests := true, laidLooks := .later }
def FileAgainUptoCardSaid : Prop := Claim7.holds Tryz.pinned (.plain (OpenSpec.upto fileAgainSpec)) fileAgainUptoCard

/-- THE SECOND FORM's CARD OF 'tracerylaw26.FilePrints'. -/
def filePrintsUptoCard : Claim7 := { stood := { row := filePrintsUptoRow, standIns := [], harness := (true, "b0c12dbdfb5377cc87e754d10e73bb53b77223e7fe1623db068c5b6716bf2ead"), looks := true }, kinds := [], alts := [], laidByText := true, laidKinds := [.data, .pinned], laidTests := true, laidLooks := .later }
def FilePrintsUptoCardSaid : Prop := Claim7.holds Tryz.pinned (.plain (OpenSpec.upto filePrintsSpec)) filePrintsUptoCard

/-- THE SECOND FORM's CARD OF 'tracerylaw26.FileCases'. -/
def fileCasesUptoCard : Claim7 := { stood := { row := fileCasesUptoRow, standIns := [], harness := (true, "b0c12dbdfb5377cc87e754d10e73bb53b77223e7fe1623db068c5b6716bf2ead"), looks := true }, kinds := [], alts := [], laidByText := true, laidKinds := [.data, .pinned], laidTests := true, laidLooks := .later }
def FileCasesUptoCardSaid : Prop := Claim7.holds Tryz.pinned (.plain (OpenSpec.upto fileCasesSpec)) fileCasesUptoCard
end Rows
end Go.Proofs.YtnfdimfepbbbpaaGreatDoor
