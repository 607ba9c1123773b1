/-
  DERIVED. GIVEN WITH THE SEED: THE CARDS: each row of YtnpfkiidhidjbaaGreatDoorRows.lean that lists a variable, with what it lists TIED to the program's text (the seventh form; the later family's looks); each row that meets fmt, with fmt's text TOLD by the authors' own Lean function (tested against real Go, not proved from fmt's source: count such statements apart). THE CARD IS WHAT COUNTS. Prove the row's statement (the work); the ties are given (YtnpfkiidhidjbaaGreatDoorTie.lean); close each card by the builder's one call (the guide's Derived/Test/ToyasCard.lean, 'card_holds'). Laid BY PROGRAM, IN A SANDBOX (cutbox-door.mjs). By AI agents, Wed Nov 11 2026. No macro, syntax, notation, axiom, sorry.
-/
import Derived.Test.YtnpfkiidhidjbaaGreatDoorRows
import GoSem.ClaimSeven
namespace Go.Proofs.YtnpfkiidhidjbaaGreatDoor
namespace Rows

/-- THE TIED CARD OF 'permitofficelaw13.HazardAnswers'. -/
def hazardAnswersCard : Claim7 := { stood := { row := hazardAnswersRow, standIns := [], harness := (true, "daa861ac5923535d4c9fdce2a08fb8c054a08d8f504e347a0d30ebc2621b0a78"), looks := false }, kinds := [], alts := [], laidByText := true, laidKinds := [.data, .data], laidTests := true, laidLooks := .later }
def HazardAnswersCardSaid : Prop := Claim7.holds Tryz.pinned (.plain (OpenSpec.ofChange hazardAnswersSpec)) hazardAnswersCard

/-- THE SECOND FORM's CARD OF 'permitofficelaw13.HazardAnswers'. -/
def hazardAnswersUptoCard : Claim7 := { stood := { row := hazardAnswersUptoRow, standIns := [], harness := (true, "daa861ac5923535d4c9fdce2a08fb8c054a08d8f504e347a0d30ebc2621b0a78"), looks := false }, kinds := [], alts := [], laidByText := true, laidKinds := [.data, .data], laidTests := true, laidLooks := .later }
def HazardAnswersUptoCardSaid : Prop := Claim7.holds Tryz.pinned (.plain (OpenSpec.upto hazardAnswersSpec)) hazardAnswersUptoCard
end Rows
end Go.Proofs.YtnpfkiidhidjbaaGreatDoor
