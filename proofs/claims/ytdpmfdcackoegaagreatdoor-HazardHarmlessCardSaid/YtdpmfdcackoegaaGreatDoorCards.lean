/-
  DERIVED. GIVEN WITH THE SEED: THE CARDS: each row of YtdpmfdcackoegaaGreatDoorRows.lean that lists a variable, with what it lists TIED to the program's text (the seventh form; the later family's looks); each row that meets fmt, with fmt's text TOLD by the authors' own Lean function (tested against real Go, not proved from fmt's source: count such statements apart). THE CARD IS WHAT COUNTS. Prove the row's statement (the work); the ties are given (YtdpmfdcackoegaaGreatDoorTie.lean); close each card by the builder's one call (the guide's Derived/Test/ToyasCard.lean, 'card_holds'). Laid BY PROGRAM, IN A SANDBOX (cutbox-door.mjs). By AI agents, Wed Nov 11 2026. No macro, syntax, notation, axiom, sorry.
-/
import Derived.Test.YtdpmfdcackoegaaGreatDoorRows
import GoSem.ClaimSeven
namespace Go.Proofs.YtdpmfdcackoegaaGreatDoor
namespace Rows

/-- THE TIED CARD OF 'permitofficelaw13.HazardFaults'. -/
def hazardFaultsCard : Claim7 := { stood := { row := hazardFaultsRow, standIns := [], harness := (true, "e935fb48f9db429730ce3ccf2493ea83733f4b0bea74a49bc496f01e742c7a1d"), looks := false }, kinds := [], alts := [], laidByText := true, laidKinds := [.data, .data], laidTests := true, laidLooks := .later }
def HazardFaultsCardSaid : Prop := Claim7.holds Tryz.pinned (.plain (OpenSpec.ofChange hazardFaultsSpec)) hazardFaultsCard

/-- THE TIED CARD OF 'permitofficelaw13.HazardHarmless'. -/
def hazardHarmlessCard : Claim7 := { stood := { row := hazardHarmlessRow, standIns := [], harness := (true, "e935fb48f9db429730ce3ccf2493ea83733f4b0bea74a49bc496f01e742c7a1d"), looks := false }, kinds := [], alts := [], laidByText := true, laidKinds := [.data, .data], laidTests := true, laidLooks := .later }
def HazardHarmlessCardSaid : Prop := Claim7.holds Tryz.pinned (.plain (OpenSpec.ofChange hazardHarmlessSpec)) hazardHarmlessCard

/-- THE TIED CARD OF 'permitofficelaw13.HazardGround'. -/
def hazardGroundCard : Claim7 := { stood := { row := hazardGroundRow, standIns := [], harness := (true, "e935fb48f9db429730ce3ccf2493ea83733f4b0bea74a49bc496f01e742c7a1d"), looks := false }, kinds := [], alts := [], laidByText := true, laidKinds := [.data, .data], laidTests := true, laidLooks := .later }
def HazardGroundCardSaid : Prop := Claim7.holds Tryz.pinned (.plain (OpenSpec.ofChange hazardGroundSpec)) hazardGroundCard

/-- THE TIED CARD OF 'permitofficelaw13.HazardExact'. -/
def hazardExactCard : Claim7 := { stood := { row := hazardExactRow, standIns := [], harness := (true, "e935fb48f9db429730ce3ccf2493ea83733f4b0bea74a49bc496f01e742c7a1d"), looks := false }, kinds := [], alts := [], laidByText := true, laidKinds := [.data, .data], laidTests := true, laidLooks := .later }
def HazardExactCardSaid : Prop := Claim7.holds Tryz.pinned (.plain (OpenSpec.ofChange hazardExactSpec)) hazardExactCard

/-- THE TIED CARD OF 'permitofficelaw13.HazardAnswers'. -/
def hazardAnswersCard : Claim7 := { stood := { row := hazardAnswersRow, standIns := [], harness := (true, "e935fb48f9db429730ce3ccf2493ea83733f4b0bea74a49bc496f01e742c7a1d"), looks := false }, kinds := [], alts := [], laidByText := true, laidKinds := [.data, .data], laidTests := true, laidLooks := .later }
def HazardAnswersCardSaid : Prop := Claim7.holds Tryz.pinned (.plain (OpenSpec.ofChange hazardAnswersSpec)) hazardAnswersCard

/-- THE SECOND FORM's CARD OF 'permitofficelaw13.HazardFaults'. -/
def hazardFaultsUptoCard : Claim7 := { stood := { row := hazardFaultsUptoRow, standIns := [], harness := (true, "e935fb48f9db429730ce3ccf2493ea83733f4b0bea74a49bc496f01e742c7a1d"), looks := false }, kinds := [], alts := [], laidByText := true, laidKinds := [.data, .data], laidTests := true, laidLooks := .later }
def HazardFaultsUptoCardSaid : Prop := Claim7.holds Tryz.pinned (.plain (OpenSpec.upto hazardFaultsSpec)) hazardFaultsUptoCard

/-- THE SECOND FORM's CARD OF 'permitofficelaw13.HazardHarmless'. -/
def hazardHarmlessUptoCard : Claim7 := { stood := { row := hazardHarmlessUptoRow, standIns := [], harness := (true, "e935fb48f9db429730ce3ccf2493ea83733f4b0bea74a49bc496f01e742c7a1d"), looks := false }, kinds := [], alts := [], laidByText := true, laidKinds := [.data, .data], laidTests := true, laidLooks := .later }
def HazardHarmlessUptoCardSaid : Prop := Claim7.holds Tryz.pinned (.plain (OpenSpec.upto hazardHarmlessSpec)) hazardHarmlessUptoCard

/-- THE SECOND FORM's CARD OF 'permitofficelaw13.HazardGround'. -/
def hazardGroundUptoCard : Claim7 := { stood := { row := hazardGroundUptoRow, standIns := [], harness := (true, "e935fb48f9db429730ce3ccf2493ea83733f4b0bea74a49bc496f01e742c7a1d"), looks := false }, kinds := [], alts := [], laidByText := true, laidKinds := [.data, .data], laidTests := true, laidLooks := .later }
def HazardGroundUptoCardSaid : Prop := Claim7.holds Tryz.pinned (.plain (OpenSpec.upto hazardGroundSpec)) hazardGroundUptoCard

/-- THE SECOND FORM's CARD OF 'permitofficelaw13.HazardExact'. -/
def hazardExactUptoCard : Claim7 := { stood := { row := hazardExactUptoRow, standIns := [], harness := (true, "e935fb48f9db429730ce3ccf2493ea83733f4b0bea74a49bc496f01e742c7a1d"), looks := false }, kinds := [], alts := [], laidByText := true, laidKinds := [.data, .data], laidTests := true, laidLooks := .later }
def HazardExactUptoCardSaid : Prop := Claim7.holds Tryz.pinned (.plain (OpenSpec.upto hazardExactSpec)) hazardExactUptoCard

/-- THE SECOND FORM's CARD OF 'permitofficelaw13.HazardAnswers'. -/
def hazardAnswersUptoCard : Claim7 := { stood := { row := hazardAnswersUptoRow, standIns := [], harness := (true, "e935fb48f9db429730ce3ccf2493ea83733f4b0bea74a49bc496f01e742c7a1d"), looks := false }, kinds := [], alts := [], laidByText := true, laidKinds := [.data, .data], laidTests := true, laidLooks := .later }
def HazardAnswersUptoCardSaid : Prop := Claim7.holds Tryz.pinned (.plain (OpenSpec.upto hazardAnswersSpec)) hazardAnswersUptoCard
end Rows
end Go.Proofs.YtdpmfdcackoegaaGreatDoor
