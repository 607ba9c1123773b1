/-
  DERIVED. GIVEN WITH THE SEED: THE CARDS: each row of YtbjndpjligpjaaaDoorRows.lean that lists a variable, with what it lists TIED to the program's text (the seventh form; the later family's looks); each row that meets fmt, with fmt's text TOLD by the authors' own Lean function (tested against real Go, not proved from fmt's source: count such statements apart). THE CARD IS WHAT COUNTS. Prove the row's statement (the work); the ties are given (YtbjndpjligpjaaaDoorTie.lean); close each card by the builder's one call (the guide's Derived/Test/ToyasCard.lean, 'card_holds'). Laid BY PROGRAM, IN A SANDBOX (cutbox-door.mjs). By AI agents, Wed Nov 11 2026. No macro, syntax, notation, axiom, sorry.
-/
import Derived.Test.YtbjndpjligpjaaaDoorRows
import GoSem.ClaimSeven
namespace Go.Proofs.YtbjndpjligpjaaaDoor
namespace Rows

/-- THE TIED CARD OF 'permitofficelaw14.LocksetAnswers'. -/
def locksetAnswersCard : Claim7 := { stood := { row := locksetAnswersRow, standIns := [], harness := (true, "b943702e7fc593388b11fafdfcc2164deaa18534118ac0d2f47cd7d0c1a02bd3"), looks := false }, kinds := [], alts := [], laidByText := true, laidKinds := [.data], laidTests := true, laidLooks := .later }
def LocksetAnswersCardSaid : Prop := Claim7.holds Tryd.pinned (.plain (OpenSpec.ofChange locksetAnswersSpec)) locksetAnswersCard

/-- THE SECOND FORM's CARD OF 'permitofficelaw14.LocksetAnswers'. -/
def locksetAnswersUptoCard : Claim7 := { stood := { row := locksetAnswersUptoRow, standIns := [], harness := (true, "b943702e7fc593388b11fafdfcc2164deaa18534118ac0d2f47cd7d0c1a02bd3"), looks := false }, kinds := [], alts := [], laidByText := true, laidKinds := [.data], laidTests := true, laidLooks := .later }
def LocksetAnswersUptoCardSaid : Prop := Claim7.holds Tryd.pinned (.plain (OpenSpec.upto locksetAnswersSpec)) locksetAnswersUptoCard
end Rows
end Go.Proofs.YtbjndpjligpjaaaDoor
