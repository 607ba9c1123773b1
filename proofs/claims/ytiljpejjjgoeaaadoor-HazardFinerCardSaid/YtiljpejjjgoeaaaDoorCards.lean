/-
  DERIVED. GIVEN WITH THE SEED: THE CARDS: each row of YtiljpejjjgoeaaaDoorRows.lean that lists a variable, with what it lists TIED to the program's text (the seventh form; the later family's looks); each row that meets fmt, with fmt's text TOLD by the authors' own Lean function (tested against real Go, not proved from fmt's source: count such statements apart). THE CARD IS WHAT COUNTS. Prove the row's statement (the work); the ties are given (YtiljpejjjgoeaaaDoorTie.lean); close each card by the builder's one call (the guide's Derived/Test/ToyasCard.lean, 'card_holds'). Laid BY PROGRAM, IN A SANDBOX (cutbox-door.mjs). By AI agents, Wed Nov 11 2026. No macro, syntax, notation, axiom, sorry.
-/
import Derived.Test.YtiljpejjjgoeaaaDoorRows
import GoSem.ClaimSeven
namespace Go.Proofs.YtiljpejjjgoeaaaDoor
namespace Rows

/-- THE TIED CARD OF 'permitofficelaw13.HazardFiner'. -/
def hazardFinerCard : Claim7 := { stood := { row := hazardFinerRow, standIns := [], harness := (true, "a09bfd4cdd480e29a848bd8639f4988ed69d009ce7f0d0aec7459c94e4ddc7ca"), looks := false }, kinds := [], alts := [], laidByText := true, laidKinds := [.data, .data], laidTests := true, laidLooks := .later }
def HazardFinerCardSaid : Prop := Claim7.holds Tryd.pinned (.plain (OpenSpec.ofChange hazardFinerSpec)) hazardFinerCard

/-- THE SECOND FORM's CARD OF 'permitofficelaw13.HazardFiner'. -/
def hazardFinerUptoCard : Claim7 := { stood := { row := hazardFinerUptoRow, standIns := [], harness := (true, "a09bfd4cdd480e29a848bd8639f4988ed69d009ce7f0d0aec7459c94e4ddc7ca"), looks := false }, kinds := [], alts := [], laidByText := true, laidKinds := [.data, .data], laidTests := true, laidLooks := .later }
def HazardFinerUptoCardSaid : Prop := Claim7.holds Tryd.pinned (.plain (OpenSpec.upto hazardFinerSpec)) hazardFinerUptoCard
end Rows
end Go.Proofs.YtiljpejjjgoeaaaDoor
