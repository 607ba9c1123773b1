/-
  DERIVED. GIVEN WITH THE SEED: THE CARDS: each row of YtkkobemhbicjgaaGreatDoorRows.lean that lists a variable, with what it lists TIED to the program's text (the seventh form; the later family's looks); each row that meets fmt, with fmt's text TOLD by the authors' own Lean function (tested against real Go, not proved from fmt's source: count such statements apart). THE CARD IS WHAT COUNTS. Prove the row's statement (the work); the ties are given (YtkkobemhbicjgaaGreatDoorTie.lean); close each card by the builder's one call (the guide's Derived/Test/ToyasCard.lean, 'card_holds'). Laid BY PROGRAM, IN A SANDBOX (cutbox-door.mjs). By AI agents, Wed Nov 11 2026. No macro, syntax, notation, axiom, sorry.
-/
import Derived.Test.YtkkobemhbicjgaaGreatDoorRows
import GoSem.ClaimSeven
namespace Go.Proofs.YtkkobemhbicjgaaGreatDoor
namespace Rows

/-- THE TIED CARD OF 'permitofficelaw18.CheckerFiner'. -/
def checkerFinerCard : Claim7 := { stood := { row := checkerFinerRow, standIns := [], harness := (true, "79ed8739e59d790242403a530af5480a595099fbbbe7281dd13d86ef7606609c"), looks := true }, kinds := [], alts := [], laidByText := true, laidKinds := [.data, .data], laidTests := true, laidLooks := .later }
def CheckerFinerCardSaid : Prop := Claim7.holds Tryz.pinned (.plain (OpenSpec.ofChange checkerFinerSpec)) checkerFinerCard

/-- THE TIED CARD OF 'permitofficelaw18.CheckerLocks'. -/
def checkerLocksCard : Claim7 := { stood := { row := checkerLocksRow, standIns := [], harness := (true, "79ed8739e59d790242403a530af5480a595099fbbbe7281dd13d86ef7606609c"), looks := true }, kinds := [], alts := [], laidByText := true, laidKinds := [.data, .data], laidTests := true, laidLooks := .later }
def CheckerLocksCardSaid : Prop := Claim7.holds Tryz.pinned (.plain (OpenSpec.ofChange checkerLocksSpec)) checkerLocksCard

/-- THE TIED CARD OF 'permitofficelaw18.CheckerProves'. -/
def checkerProvesCard : Claim7 := { stood := { row := checkerProvesRow, standIns := [], harness := (true, "79ed8739e59d790242403a530af5480a595099fbbbe7281dd13d86ef7606609c"), looks := true }, kinds := [], alts := [], laidByText := true, laidKinds := [.data, .data], laidTests := true, laidLooks := .later }
def CheckerProvesCardSaid : Prop := Claim7.holds Tryz.pinned (.plain (OpenSpec.ofChange checkerProvesSpec)) checkerProvesCard

/-- THE TIED CARD OF 'permitofficelaw18.CheckerAnswers'. -/
def checkerAnswersCard : Claim7 := { stood := { row := checkerAnswersRow, standIns := [], harness := (true, "79ed8739e59d790242403a530af5480a595099fbbbe7281dd13d86ef7606609c"), looks := true }, kinds := [], alts := [], laidByText := true, laidKinds := [.data, .data], laidTests := true, laidLooks := .later }
def CheckerAnswersCardSaid : Prop := Claim7.holds Tryz.pinned (.plain (OpenSpec.ofChange checkerAnswersSpec)) checkerAnswersCard

/-- THE TIED CARD OF 'permitofficelaw18.CheckerSteps'. -/
def checkerStepsCard : Claim7 := { stood := { row := checkerStepsRow, standIns := [], harness := (true, "79ed8739e59d790242403a530af5480a595099fbbbe7281dd13d86ef7606609c"), looks := true }, kinds := [], alts := [], laidByText := true, laidKinds := [.data, .data], laidTests := true, laidLooks := .later }
def CheckerStepsCardSaid : Prop := Claim7.holds Tryz.pinned (.plain (OpenSpec.ofChange checkerStepsSpec)) checkerStepsCard

/-- THE TIED CARD OF 'permitofficelaw18.CheckerFinds'. -/
def checkerFindsCard : Claim7 := { stood := { row := checkerFindsRow, standIns := [], harness := (true, "79ed8739e59d790242403a530af5480a595099fbbbe7281dd13d86ef7606609c"), looks := true }, kinds := [], alts := [], laidByText := true, laidKinds := [.data, .data], laidTests := true, laidLooks := .later }
def CheckerFindsCardSaid : Prop := Claim7.holds Tryz.pinned (.plain (OpenSpec.ofChange checkerFindsSpec)) checkerFindsCard

/-- THE TIED CARD OF 'permitofficelaw18.CheckerExact'. -/
def checkerExactCard : Claim7 := { stood := { row := checkerExactRow, standIns := [], harness := (true, "79ed8739e59d790242403a530af5480a595099fbbbe7281dd13d86ef7606609c"), looks := true }, kinds := [], alts := [], laidByText := true, laidKinds := [.data, .data], laidTests := true, laidLooks := .later }
def CheckerExactCardSaid : Prop := Claim7.holds Tryz.pinned (.plain (OpenSpec.ofChange checkerExactSpec)) checkerExactCard

/-- THE SECOND FORM's CARD OF 'permitofficelaw18.CheckerFiner'. -/
def checkerFinerUptoCard : Claim7 := { stood := { row := checkerFinerUptoRow, standIns := [], harness := (true, "79ed8739e59d790242403a530af5480a595099fbbbe7281dd13d86ef7606609c"), looks := true }, kinds := [], alts := [], laidByText := true, laidKinds := [.data, .data], laidTests := true, laidLooks := .later }
def CheckerFinerUptoCardSaid : Prop := Claim7.holds Tryz.pinned (.plain (OpenSpec.upto checkerFinerSpec)) checkerFinerUptoCard

/-- THE SECOND FORM's CARD OF 'permitofficelaw18.CheckerLocks'. -/
def checkerLocksUptoCard : Claim7 := { stood := { row := checkerLocksUptoRow, standIns := [], harness := (true, "79ed8739e59d790242403a530af5480a595099fbbbe7281dd13d86ef7606609c"), looks := true }, kinds := [], alts := [], laidByText := true, laidKinds := [.data, .data], laidTests := true, laidLooks := .later }
def CheckerLocksUptoCardSaid : Prop := Claim7.holds Tryz.pinned (.plain (OpenSpec.upto checkerLocksSpec)) checkerLocksUptoCard

/-- THE SECOND FORM's CARD OF 'permitofficelaw18.CheckerProves'. -/
def checkerProvesUptoCard : Claim7 := { stood := { row := checkerProvesUptoRow, standIns := [], harness := (true, "79ed8739e59d790242403a530af5480a595099fbbbe7281dd13d86ef7606609c"), looks := true }, kinds := [], alts := [], laidByText := true, laidKinds := [.data, .data], laidTests := true, laidLooks := .later }
def CheckerProvesUptoCardSaid : Prop := Claim7.holds Tryz.pinned (.plain (OpenSpec.upto checkerProvesSpec)) checkerProvesUptoCard

/-- THE SECOND FORM's CARD OF 'permitofficelaw18.CheckerAnswers'. -/
def checkerAnswersUptoCard : Claim7 := { stood := { row := checkerAnswersUptoRow, standIns := [], harness := (true, "79ed8739e59d790242403a530af5480a595099fbbbe7281dd13d86ef7606609c"), looks := true }, kinds := [], alts := [], laidByText := true, laidKinds := [.data, .data], laidTests := true, laidLooks := .later }
def CheckerAnswersUptoCardSaid : Prop := Claim7.holds Tryz.pinned (.plain (OpenSpec.upto checkerAnswersSpec)) checkerAnswersUptoCard

/-- THE SECOND FORM's CARD OF 'permitofficelaw18.CheckerSteps'. -/
def checkerStepsUptoCard : Claim7 := { stood := { row := checkerStepsUptoRow, standIns := [], harness := (true, "79ed8739e59d790242403a530af5480a595099fbbbe7281dd13d86ef7606609c"), looks := true }, kinds := [], alts := [], laidByText := true, laidKinds := [.data, .data], laidTests := true, laidLooks := .later }
def CheckerStepsUptoCardSaid : Prop := Claim7.holds Tryz.pinned (.plain (OpenSpec.upto checkerStepsSpec)) checkerStepsUptoCard

/-- THE SECOND FORM's CARD OF 'permitofficelaw18.CheckerFinds'. -/
def checkerFindsUptoCard : Claim7 := { stood := { row := checkerFindsUptoRow, standIns := [], harness := (true, "79ed8739e59d790242403a530af5480a595099fbbbe7281dd13d86ef7606609c"), looks := true }, kinds := [], alts := [], laidByText := true, laidKinds := [.data, .data], laidTests := true, laidLooks := .later }
def CheckerFindsUptoCardSaid : Prop := Claim7.holds Tryz.pinned (.plain (OpenSpec.upto checkerFindsSpec)) checkerFindsUptoCard

/-- THE SECOND FORM's CARD OF 'permitofficelaw18.CheckerExact'. -/
def checkerExactUptoCard : Claim7 := { stood := { row := checkerExactUptoRow, standIns := [], harness := (true, "79ed8739e59d790242403a530af5480a595099fbbbe7281dd13d86ef7606609c"), looks := true }, kinds := [], alts := [], laidByText := true, laidKinds := [.data, .data], laidTests := true, laidLooks := .later }
def CheckerExactUptoCardSaid : Prop := Claim7.holds Tryz.pinned (.plain (OpenSpec.upto checkerExactSpec)) checkerExactUptoCard
end Rows
end Go.Proofs.YtkkobemhbicjgaaGreatDoor
