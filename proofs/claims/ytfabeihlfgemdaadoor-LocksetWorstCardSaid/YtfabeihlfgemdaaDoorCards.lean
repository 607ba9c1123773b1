/-
  DERIVED. GIVEN WITH THE SEED: THE CARDS: each row of YtfabeihlfgemdaaDoorRows.lean that lists a variable, with what it lists TIED to the program's text (the seventh form; the later family's looks); each row that meets fmt, with fmt's text TOLD by the authors' own Lean function (tested against real Go, not proved from fmt's source: count such statements apart). THE CARD IS WHAT COUNTS. Prove the row's statement (the work); the ties are given (YtfabeihlfgemdaaDoorTie.lean); close each card by the builder's one call (the guide's Derived/Test/ToyasCard.lean, 'card_holds'). Laid BY PROGRAM, IN A SANDBOX (cutbox-door.mjs). By AI agents, Wed Nov 11 2026. No macro, syntax, notation, axiom, sorry.
-/
import Derived.Test.YtfabeihlfgemdaaDoorRows
import GoSem.ClaimSeven
namespace Go.Proofs.YtfabeihlfgemdaaDoor
namespace Rows

/-- THE TIED CARD OF 'permitofficelaw14.LocksetBack'. -/
def locksetBackCard : Claim7 := { stood := { row := locksetBackRow, standIns := [], harness := (true, "0e25b82749d2088435875f4ff0ecaace045abb62cb5f23ede6c95953f71d011b"), looks := false }, kinds := [], alts := [], laidByText := true, laidKinds := [.data], laidTests := true, laidLooks := .later }
def LocksetBackCardSaid : Prop := Claim7.holds Tryd.pinned (.plain (OpenSpec.ofChange locksetBackSpec)) locksetBackCard

/-- THE TIED CARD OF 'permitofficelaw14.LocksetLimit'. -/
def locksetLimitCard : Claim7 := { stood := { row := locksetLimitRow, standIns := [], harness := (true, "0e25b82749d2088435875f4ff0ecaace045abb62cb5f23ede6c95953f71d011b"), looks := false }, kinds := [], alts := [], laidByText := true, laidKinds := [.data], laidTests := true, laidLooks := .later }
def LocksetLimitCardSaid : Prop := Claim7.holds Tryd.pinned (.plain (OpenSpec.ofChange locksetLimitSpec)) locksetLimitCard

/-- THE TIED CARD OF 'permitofficelaw14.LocksetAnswers'. -/
def locksetAnswersCard : Claim7 := { stood := { row := locksetAnswersRow, standIns := [], harness := (true, "0e25b82749d2088435875f4ff0ecaace045abb62cb5f23ede6c95953f71d011b"), looks := false }, kinds := [], alts := [], laidByText := true, laidKinds := [.data], laidTests := true, laidLooks := .later }
def LocksetAnswersCardSaid : Prop := Claim7.holds Tryd.pinned (.plain (OpenSpec.ofChange locksetAnswersSpec)) locksetAnswersCard

/-- THE TIED CARD OF 'permitofficelaw14.LocksetWorst'. -/
def locksetWorstCard : Claim7 := { stood := { row := locksetWorstRow, standIns := [], harness := (true, "0e25b82749d2088435875f4ff0ecaace045abb62cb5f23ede6c95953f71d011b"), looks := false }, kinds := [], alts := [], laidByText := true, laidKinds := [.data], laidTests := true, laidLooks := .later }
def LocksetWorstCardSaid : Prop := Claim7.holds Tryd.pinned (.plain (OpenSpec.ofChange locksetWorstSpec)) locksetWorstCard

/-- THE SECOND FORM's CARD OF 'permitofficelaw14.LocksetBack'. -/
def locksetBackUptoCard : Claim7 := { stood := { row := locksetBackUptoRow, standIns := [], harness := (true, "0e25b82749d2088435875f4ff0ecaace045abb62cb5f23ede6c95953f71d011b"), looks := false }, kinds := [], alts := [], laidByText := true, laidKinds := [.data], laidTests := true, laidLooks := .later }
def LocksetBackUptoCardSaid : Prop := Claim7.holds Tryd.pinned (.plain (OpenSpec.upto locksetBackSpec)) locksetBackUptoCard

/-- THE SECOND FORM's CARD OF 'permitofficelaw14.LocksetLimit'. -/
def locksetLimitUptoCard : Claim7 := { stood := { row := locksetLimitUptoRow, standIns := [], harness := (true, "0e25b82749d2088435875f4ff0ecaace045abb62cb5f23ede6c95953f71d011b"), looks := false }, kinds := [], alts := [], laidByText := true, laidKinds := [.data], laidTests := true, laidLooks := .later }
def LocksetLimitUptoCardSaid : Prop := Claim7.holds Tryd.pinned (.plain (OpenSpec.upto locksetLimitSpec)) locksetLimitUptoCard

/-- THE SECOND FORM's CARD OF 'permitofficelaw14.LocksetAnswers'. -/
def locksetAnswersUptoCard : Claim7 := { stood := { row := locksetAnswersUptoRow, standIns := [], harness := (true, "0e25b82749d2088435875f4ff0ecaace045abb62cb5f23ede6c95953f71d011b"), looks := false }, kinds := [], alts := [], laidByText := true, laidKinds := [.data], laidTests := true, laidLooks := .later }
def LocksetAnswersUptoCardSaid : Prop := Claim7.holds Tryd.pinned (.plain (OpenSpec.upto locksetAnswersSpec)) locksetAnswersUptoCard

/-- THE SECOND FORM's CARD OF 'permitofficelaw14.LocksetWorst'. -/
def locksetWorstUptoCard : Claim7 := { stood := { row := locksetWorstUptoRow, standIns := [], harness := (true, "0e25b82749d2088435875f4ff0ecaace045abb62cb5f23ede6c95953f71d011b"), looks := false }, kinds := [], alts := [], laidByText := true, laidKinds := [.data], laidTests := true, laidLooks := .later }
def LocksetWorstUptoCardSaid : Prop := Claim7.holds Tryd.pinned (.plain (OpenSpec.upto locksetWorstSpec)) locksetWorstUptoCard
end Rows
end Go.Proofs.YtfabeihlfgemdaaDoor
