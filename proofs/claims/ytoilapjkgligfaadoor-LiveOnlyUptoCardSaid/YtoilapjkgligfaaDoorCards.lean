/-
  DERIVED. GIVEN WITH THE SEED: THE CARDS: each row of YtoilapjkgligfaaDoorRows.lean that lists a variable, with what it lists TIED to the program's text (the seventh form; the later family's looks); each row that meets fmt, with fmt's text TOLD by the authors' own Lean function (tested against real Go, not proved from fmt's source: count such statements apart). THE CARD IS WHAT COUNTS. Prove the row's statement (the work); the ties are given (YtoilapjkgligfaaDoorTie.lean); close each card by the builder's one call (the guide's Derived/Test/ToyasCard.lean, 'card_holds'). Laid BY PROGRAM, IN A SANDBOX (cutbox-door.mjs). By AI agents, Wed Nov 11 2026. No macro, syntax, notation, axiom, sorry.
-/
import Derived.Test.YtoilapjkgligfaaDoorRows
import GoSem.ClaimSeven
namespace Go.Proofs.YtoilapjkgligfaaDoor
namespace Rows

/-- THE TIED CARD OF 'cubbylaw11.LiveOnly'. -/
def liveOnlyCard : Claim7 := { stood := { row := liveOnlyRow, standIns := [], harness := (true, "80d7bde413ea378ca3c473136a6f932b627f7768a3e061793746ab9a5ccb70f3"), looks := true }, kinds := [], alts := [], laidByText := true, laidKinds := [.data, .data, .pinned], laidTests := true, laidLooks := .later }
def LiveOnlyCardSaid : Prop := Claim7.holds Tryd.pinned (.plain (OpenSpec.ofChange liveOnlySpec)) liveOnlyCard

/-- THE TIED CARD OF 'cubbylaw08.TextLines'. -/
def textLinesCard : Claim7 := { stood := { row := textLinesRow, standIns := [], harness := (true, "80d7bde413ea378ca3c473136a6f932b627f7768a3e061793746ab9a5ccb70f3"), looks := true }, kinds := [], alts := [], laidByText := true, laidKinds := [.data, .data, .data, .data, .pinned], laidTests := true, laidLooks := .later }
def TextLinesCardSaid : Prop := Claim7.holds Tryd.pinned (.plain (OpenSpec.ofChange textLinesSpec)) textLinesCard

/-- THE TIED CARD OF 'cubbylaw18.ProofSteps'. -/
def proofStepsCard : Claim7 := { stood := { row := proofStepsRow, standIns := [], harness := (true, "80d7bde413ea378ca3c473136a6f932b627f7768a3e061793746ab9a5ccb70f3"), looks := true }, kinds := [], alts := [], laidByText := true, laidKinds := [.data, .data, .pinned], laidTests := true, laidLooks := .later }
def ProofStepsCardSaid : Prop := Claim7.holds Tryd.pinned (.plain (OpenSpec.ofChange proofStepsSpec)) proofStepsCard

/-- THE TIED CARD OF 'cubbylaw16.ScanParts'. -/
def scanPartsCard : Claim7 := { stood := { row := scanPartsRow, standIns := [], harness := (true, "80d7bde413ea378ca3c473136a6f932b627f7768a3e061793746ab9a5ccb70f3"), looks := true }, kinds := [], alts := [], laidByText := true, laidKinds := [.data, .data, .data, .pinned], laidTests := true, laidLooks := .later }
def ScanPartsCardSaid : Prop := Claim7.holds Tryd.pinned (.plain (OpenSpec.ofChange scanPartsSpec)) scanPartsCard

/-- THE SECOND FORM's CARD OF 'cubbylaw11.LiveOnly'. -/
def liveOnlyUptoCard : Claim7 := { stood := { row := liveOnlyUptoRow, standIns := [], harness := (true, "80d7bde413ea378ca3c473136a6f932b627f7768a3e061793746ab9a5ccb70f3"), looks := true }, kinds := [], alts := [], laidByText := true, laidKinds := [.data, .data, .pinned], laidTests := true, laidLooks := .later }
def LiveOnlyUptoCardSaid : Prop := Claim7.holds Tryd.pinned (.plain (OpenSpec.upto liveOnlySpec)) liveOnlyUptoCard

/-- THE SECOND FORM's CARD OF 'cubbylaw08.TextLines'. -/
def textLinesUptoCard : Claim7 := { stood := { row := textLinesUptoRow, standIns := [], harness := (true, "80d7bde413ea378ca3c473136a6f932b627f7768a3e061793746ab9a5ccb70f3"), looks := true }, kinds := [], alts := [], laidByText := true, laidKinds := [.data, .data, .data, .data, .pinned], laidTests := true, laidLooks := .later }
def TextLinesUptoCardSaid : Prop := Claim7.holds Tryd.pinned (.plain (OpenSpec.upto textLinesSpec)) textLinesUptoCard

/-- THE SECOND FORM's CARD OF 'cubbylaw18.ProofSteps'. -/
def proofStepsUptoCard : Claim7 := { stood := { row := proofStepsUptoRow, standIns := [], harness := (true, "80d7bde413ea378ca3c473136a6f932b627f7768a3e061793746ab9a5ccb70f3"), looks := true }, kinds := [], alts := [], laidByText := true, laidKinds := [.data, .data, .pinned], laidTests := true, laidLooks := .later }
def ProofStepsUptoCardSaid : Prop := Claim7.holds Tryd.pinned (.plain (OpenSpec.upto proofStepsSpec)) proofStepsUptoCard

/-- THE SECOND FORM's CARD OF 'cubbylaw16.ScanParts'. -/
def scanPartsUptoCard : Claim7 := { stood := { row := scanPartsUptoRow, standIns := [], harness := (true, "80d7bde413ea378ca3c473136a6f932b627f7768a3e061793746ab9a5ccb70f3"), looks := true }, kinds := [], alts := [], laidByText := true, laidKinds := [.data, .data, .data, .pinned], laidTests := true, laidLooks := .later }
def ScanPartsUptoCardSaid : Prop := Claim7.holds Tryd.pinned (.plain (OpenSpec.upto scanPartsSpec)) scanPartsUptoCard
end Rows
end Go.Proofs.YtoilapjkgligfaaDoor
