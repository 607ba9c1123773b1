/-
  DERIVED. GIVEN WITH THE SEED: THE CARDS: each row of YtddddlhgaeameaaGreatDoorRows.lean that lists a variable, with what it lists TIED to the program's text (the seventh form; the later family's looks); each row that meets fmt, with fmt's text TOLD by the authors' own Lean function (tested against real Go, not proved from fmt's source: count such statements apart). THE CARD IS WHAT COUNTS. Prove the row's statement (the work); the ties are given (YtddddlhgaeameaaGreatDoorTie.lean); close each card by the builder's one call (the guide's Derived/Test/ToyasCard.lean, 'card_holds'). Laid BY PROGRAM, IN A SANDBOX (cutbox-door.mjs). By AI agents, Wed Nov 11 2026. No macro, syntax, notation, axiom, sorry.
-/
import Derived.Test.YtddddlhgaeameaaGreatDoorRows
import GoSem.ClaimSeven
namespace Go.Proofs.YtddddlhgaeameaaGreatDoor
namespace Rows

/-- THE TIED CARD OF 'permitofficelaw19.SimulateAnswers'. -/
def simulateAnswersCard : Claim7 := { stood := { row := simulateAnswersRow, standIns := [], harness := (true, "9222ead02bcc2a12681e282f3dc9d839b25a27d8cf65d987145665a0b19b18ae"), looks := true }, kinds := [], alts := [], laidByText := true, laidKinds := [.data, .data], laidTests := true, laidLooks := .later }
def SimulateAnswersCardSaid : Prop := Claim7.holds Tryz.pinned (.plain (OpenSpec.ofChange simulateAnswersSpec)) simulateAnswersCard

/-- THE TIED CARD OF 'permitofficelaw19.SimulateSteps'. -/
def simulateStepsCard : Claim7 := { stood := { row := simulateStepsRow, standIns := [], harness := (true, "9222ead02bcc2a12681e282f3dc9d839b25a27d8cf65d987145665a0b19b18ae"), looks := true }, kinds := [], alts := [], laidByText := true, laidKinds := [.data, .data], laidTests := true, laidLooks := .later }
def SimulateStepsCardSaid : Prop := Claim7.holds Tryz.pinned (.plain (OpenSpec.ofChange simulateStepsSpec)) simulateStepsCard

/-- THE TIED CARD OF 'permitofficelaw19.SimulateMoves'. -/
def simulateMovesCard : Claim7 := { stood := { row := simulateMovesRow, standIns := [], harness := (true, "9222ead02bcc2a12681e282f3dc9d839b25a27d8cf65d987145665a0b19b18ae"), looks := true }, kinds := [], alts := [], laidByText := true, laidKinds := [.data, .data], laidTests := true, laidLooks := .later }
def SimulateMovesCardSaid : Prop := Claim7.holds Tryz.pinned (.plain (OpenSpec.ofChange simulateMovesSpec)) simulateMovesCard

/-- THE SECOND FORM's CARD OF 'permitofficelaw19.SimulateAnswers'. -/
def simulateAnswersUptoCard : Claim7 := { stood := { row := simulateAnswersUptoRow, standIns := [], harness := (true, "9222ead02bcc2a12681e282f3dc9d839b25a27d8cf65d987145665a0b19b18ae"), looks := true }, kinds := [], alts := [], laidByText := true, laidKinds := [.data, .data], laidTests := true, laidLooks := .later }
def SimulateAnswersUptoCardSaid : Prop := Claim7.holds Tryz.pinned (.plain (OpenSpec.upto simulateAnswersSpec)) simulateAnswersUptoCard

/-- THE SECOND FORM's CARD OF 'permitofficelaw19.SimulateSteps'. -/
def simulateStepsUptoCard : Claim7 := { stood := { row := simulateStepsUptoRow, standIns := [], harness := (true, "9222ead02bcc2a12681e282f3dc9d839b25a27d8cf65d987145665a0b19b18ae"), looks := true }, kinds := [], alts := [], laidByText := true, laidKinds := [.data, .data], laidTests := true, laidLooks := .later }
def SimulateStepsUptoCardSaid : Prop := Claim7.holds Tryz.pinned (.plain (OpenSpec.upto simulateStepsSpec)) simulateStepsUptoCard

/-- THE SECOND FORM's CARD OF 'permitofficelaw19.SimulateMoves'. -/
def simulateMovesUptoCard : Claim7 := { stood := { row := simulateMovesUptoRow, standIns := [], harness := (true, "9222ead02bcc2a12681e282f3dc9d839b25a27d8cf65d987145665a0b19b18ae"), looks := true }, kinds := [], alts := [], laidByText := true, laidKinds := [.data, .data], laidTests := true, laidLooks := .later }
def SimulateMovesUptoCardSaid : Prop := Claim7.holds Tryz.pinned (.plain (OpenSpec.upto simulateMovesSpec)) simulateMovesUptoCard
end Rows
end Go.Proofs.YtddddlhgaeameaaGreatDoor
