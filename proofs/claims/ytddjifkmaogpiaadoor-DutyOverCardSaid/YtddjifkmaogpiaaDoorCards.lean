/-
  DERIVED. GIVEN WITH THE SEED: THE CARDS: each row of YtddjifkmaogpiaaDoorRows.lean that lists a variable, with what it lists TIED to the program's text (the seventh form; the later family's looks); each row that meets fmt, with fmt's text TOLD by the authors' own Lean function (tested against real Go, not proved from fmt's source: count such statements apart). THE CARD IS WHAT COUNTS. Prove the row's statement (the work); the ties are given (YtddjifkmaogpiaaDoorTie.lean); close each card by the builder's one call (the guide's Derived/Test/ToyasCard.lean, 'card_holds'). Laid BY PROGRAM, IN A SANDBOX (cutbox-door.mjs). By AI agents, Wed Nov 11 2026. No macro, syntax, notation, axiom, sorry.
-/
import Derived.Test.YtddjifkmaogpiaaDoorRows
import GoSem.ClaimSeven
namespace Go.Proofs.YtddjifkmaogpiaaDoor
namespace Rows

/-- THE TIED CARD OF 'permitofficelaw12.DutyEither'. -/
def dutyEitherCard : Claim7 := { stood := { row := dutyEitherRow, standIns := [], harness := (true, "aeb2b873365a128a7dd0fc6d6c68527a3509f54700211bf56972cb8d860b8e71"), looks := false }, kinds := [], alts := [], laidByText := true, laidKinds := [.data, .data], laidTests := true, laidLooks := .later }
def DutyEitherCardSaid : Prop := Claim7.holds Tryd.pinned (.plain (OpenSpec.ofChange dutyEitherSpec)) dutyEitherCard

/-- THE TIED CARD OF 'permitofficelaw12.DutyLoads'. -/
def dutyLoadsCard : Claim7 := { stood := { row := dutyLoadsRow, standIns := [], harness := (true, "aeb2b873365a128a7dd0fc6d6c68527a3509f54700211bf56972cb8d860b8e71"), looks := false }, kinds := [], alts := [], laidByText := true, laidKinds := [.data, .data], laidTests := true, laidLooks := .later }
def DutyLoadsCardSaid : Prop := Claim7.holds Tryd.pinned (.plain (OpenSpec.ofChange dutyLoadsSpec)) dutyLoadsCard

/-- THE TIED CARD OF 'permitofficelaw12.DutyDark'. -/
def dutyDarkCard : Claim7 := { stood := { row := dutyDarkRow, standIns := [], harness := (true, "aeb2b873365a128a7dd0fc6d6c68527a3509f54700211bf56972cb8d860b8e71"), looks := false }, kinds := [], alts := [], laidByText := true, laidKinds := [.data, .data], laidTests := true, laidLooks := .later }
def DutyDarkCardSaid : Prop := Claim7.holds Tryd.pinned (.plain (OpenSpec.ofChange dutyDarkSpec)) dutyDarkCard

/-- THE TIED CARD OF 'permitofficelaw12.DutyOver'. -/
def dutyOverCard : Claim7 := { stood := { row := dutyOverRow, standIns := [], harness := (true, "aeb2b873365a128a7dd0fc6d6c68527a3509f54700211bf56972cb8d860b8e71"), looks := false }, kinds := [], alts := [], laidByText := true, laidKinds := [.data, .data], laidTests := true, laidLooks := .later }
def DutyOverCardSaid : Prop := Claim7.holds Tryd.pinned (.plain (OpenSpec.ofChange dutyOverSpec)) dutyOverCard

/-- THE SECOND FORM's CARD OF 'permitofficelaw12.DutyEither'. -/
def dutyEitherUptoCard : Claim7 := { stood := { row := dutyEitherUptoRow, standIns := [], harness := (true, "aeb2b873365a128a7dd0fc6d6c68527a3509f54700211bf56972cb8d860b8e71"), looks := false }, kinds := [], alts := [], laidByText := true, laidKinds := [.data, .data], laidTests := true, laidLooks := .later }
def DutyEitherUptoCardSaid : Prop := Claim7.holds Tryd.pinned (.plain (OpenSpec.upto dutyEitherSpec)) dutyEitherUptoCard

/-- THE SECOND FORM's CARD OF 'permitofficelaw12.DutyLoads'. -/
def dutyLoadsUptoCard : Claim7 := { stood := { row := dutyLoadsUptoRow, standIns := [], harness := (true, "aeb2b873365a128a7dd0fc6d6c68527a3509f54700211bf56972cb8d860b8e71"), looks := false }, kinds := [], alts := [], laidByText := true, laidKinds := [.data, .data], laidTests := true, laidLooks := .later }
def DutyLoadsUptoCardSaid : Prop := Claim7.holds Tryd.pinned (.plain (OpenSpec.upto dutyLoadsSpec)) dutyLoadsUptoCard

/-- THE SECOND FORM's CARD OF 'permitofficelaw12.DutyDark'. -/
def dutyDarkUptoCard : Claim7 := { stood := { row := dutyDarkUptoRow, standIns := [], harness := (true, "aeb2b873365a128a7dd0fc6d6c68527a3509f54700211bf56972cb8d860b8e71"), looks := false }, kinds := [], alts := [], laidByText := true, laidKinds := [.data, .data], laidTests := true, laidLooks := .later }
def DutyDarkUptoCardSaid : Prop := Claim7.holds Tryd.pinned (.plain (OpenSpec.upto dutyDarkSpec)) dutyDarkUptoCard

/-- THE SECOND FORM's CARD OF 'permitofficelaw12.DutyOver'. -/
def dutyOverUptoCard : Claim7 := { stood := { row := dutyOverUptoRow, standIns := [], harness := (true, "aeb2b873365a128a7dd0fc6d6c68527a3509f54700211bf56972cb8d860b8e71"), looks := false }, kinds := [], alts := [], laidByText := true, laidKinds := [.data, .data], laidTests := true, laidLooks := .later }
def DutyOverUptoCardSaid : Prop := Claim7.holds Tryd.pinned (.plain (OpenSpec.upto dutyOverSpec)) dutyOverUptoCard
end Rows
end Go.Proofs.YtddjifkmaogpiaaDoor
