/-
  DERIVED. GIVEN WITH THE SEED: THE CARDS: each row of YtfaknfmndafllaaGreatDoorRows.lean that lists a variable, with what it lists TIED to the program's text (the seventh form; the later family's looks); each row that meets fmt, with fmt's text TOLD by the authors' own Lean function (tested against real Go, not proved from fmt's source: count such statements apart). THE CARD IS WHAT COUNTS. Prove the row's statement (the work); the ties are given (YtfaknfmndafllaaGreatDoorTie.lean); close each card by the builder's one call (the guide's Derived/Test/ToyasCard.lean, 'card_holds'). Laid BY PROGRAM, IN A SANDBOX (cutbox-door.mjs). By AI agents, Wed Nov 11 2026. No macro, syntax, notation, axiom, sorry.
-/
import Derived.Test.YtfaknfmndafllaaGreatDoorRows
import GoSem.ClaimSeven
namespace Go.Proofs.YtfaknfmndafllaaGreatDoor
namespace Rows

/-- THE TIED CARD OF 'permitofficelaw21.RestoreLeast'. -/
def restoreLeastCard : Claim7 := { stood := { row := restoreLeastRow, standIns := [], harness := (true, "257a2dc44c5e879028ae8ae0907bebd2367cc046bbf221ccad56e2b5b6f7d65d"), looks := true }, kinds := [], alts := [], laidByText := true, laidKinds := [.data, .data], laidTests := true, laidLooks := .later }
def RestoreLeastCardSaid : Prop := Claim7.holds Tryz.pinned (.plain (OpenSpec.ofChange restoreLeastSpec)) restoreLeastCard

/-- THE TIED CARD OF 'permitofficelaw21.RestoreAnswers'. -/
def restoreAnswersCard : Claim7 := { stood := { row := restoreAnswersRow, standIns := [], harness := (true, "257a2dc44c5e879028ae8ae0907bebd2367cc046bbf221ccad56e2b5b6f7d65d"), looks := true }, kinds := [], alts := [], laidByText := true, laidKinds := [.data, .data], laidTests := true, laidLooks := .later }
def RestoreAnswersCardSaid : Prop := Claim7.holds Tryz.pinned (.plain (OpenSpec.ofChange restoreAnswersSpec)) restoreAnswersCard

/-- THE TIED CARD OF 'permitofficelaw21.RestoreUnlocks'. -/
def restoreUnlocksCard : Claim7 := { stood := { row := restoreUnlocksRow, standIns := [], harness := (true, "257a2dc44c5e879028ae8ae0907bebd2367cc046bbf221ccad56e2b5b6f7d65d"), looks := true }, kinds := [], alts := [], laidByText := true, laidKinds := [.data, .data], laidTests := true, laidLooks := .later }
def RestoreUnlocksCardSaid : Prop := Claim7.holds Tryz.pinned (.plain (OpenSpec.ofChange restoreUnlocksSpec)) restoreUnlocksCard

/-- THE TIED CARD OF 'permitofficelaw21.RestoreUndoes'. -/
def restoreUndoesCard : Claim7 := { stood := { row := restoreUndoesRow, standIns := [], harness := (true, "257a2dc44c5e879028ae8ae0907bebd2367cc046bbf221ccad56e2b5b6f7d65d"), looks := true }, kinds := [], alts := [], laidByText := true, laidKinds := [.data, .data], laidTests := true, laidLooks := .later }
def RestoreUndoesCardSaid : Prop := Claim7.holds Tryz.pinned (.plain (OpenSpec.ofChange restoreUndoesSpec)) restoreUndoesCard

/-- THE TIED CARD OF 'permitofficelaw21.RestoreSafe'. -/
def restoreSafeCard : Claim7 := { stood := { row := restoreSafeRow, standIns := [], harness := (true, "257a2dc44c5e879028ae8ae0907bebd2367cc046bbf221ccad56e2b5b6f7d65d"), looks := true }, kinds := [], alts := [], laidByText := true, laidKinds := [.data, .data], laidTests := true, laidLooks := .later }
def RestoreSafeCardSaid : Prop := Claim7.holds Tryz.pinned (.plain (OpenSpec.ofChange restoreSafeSpec)) restoreSafeCard

/-- THE SECOND FORM's CARD OF 'permitofficelaw21.RestoreLeast'. -/
def restoreLeastUptoCard : Claim7 := { stood := { row := restoreLeastUptoRow, standIns := [], harness := (true, "257a2dc44c5e879028ae8ae0907bebd2367cc046bbf221ccad56e2b5b6f7d65d"), looks := true }, kinds := [], alts := [], laidByText := true, laidKinds := [.data, .data], laidTests := true, laidLooks := .later }
def RestoreLeastUptoCardSaid : Prop := Claim7.holds Tryz.pinned (.plain (OpenSpec.upto restoreLeastSpec)) restoreLeastUptoCard

/-- THE SECOND FORM's CARD OF 'permitofficelaw21.RestoreAnswers'. -/
def restoreAnswersUptoCard : Claim7 := { stood := { row := restoreAnswersUptoRow, standIns := [], harness := (true, "257a2dc44c5e879028ae8ae0907bebd2367cc046bbf221ccad56e2b5b6f7d65d"), looks := true }, kinds := [], alts := [], laidByText := true, laidKinds := [.data, .data], laidTests := true, laidLooks := .later }
def RestoreAnswersUptoCardSaid : Prop := Claim7.holds Tryz.pinned (.plain (OpenSpec.upto restoreAnswersSpec)) restoreAnswersUptoCard

/-- THE SECOND FORM's CARD OF 'permitofficelaw21.RestoreUnlocks'. -/
def restoreUnlocksUptoCard : Claim7 := { stood := { row := restoreUnlocksUptoRow, standIns := [], harness := (true, "257a2dc44c5e879028ae8ae0907bebd2367cc046bbf221ccad56e2b5b6f7d65d"), looks := true }, kinds := [], alts := [], laidByText := true, laidKinds := [.data, .data], laidTests := true, laidLooks := .later }
def RestoreUnlocksUptoCardSaid : Prop := Claim7.holds Tryz.pinned (.plain (OpenSpec.upto restoreUnlocksSpec)) restoreUnlocksUptoCard

/-- THE SECOND FORM's CARD OF 'permitofficelaw21.RestoreUndoes'. -/
def restoreUndoesUptoCard : Claim7 := { stood := { row := restoreUndoesUptoRow, standIns := [], harness := (true, "257a2dc44c5e879028ae8ae0907bebd2367cc046bbf221ccad56e2b5b6f7d65d"), looks := true }, kinds := [], alts := [], laidByText := true, laidKinds := [.data, .data], laidTests := true, laidLooks := .later }
def RestoreUndoesUptoCardSaid : Prop := Claim7.holds Tryz.pinned (.plain (OpenSpec.upto restoreUndoesSpec)) restoreUndoesUptoCard

/-- THE SECOND FORM's CARD OF 'permitofficelaw21.RestoreSafe'. -/
def restoreSafeUptoCard : Claim7 := { stood := { row := restoreSafeUptoRow, standIns := [], harness := (true, "257a2dc44c5e879028ae8ae0907bebd2367cc046bbf221ccad56e2b5b6f7d65d"), looks := true }, kinds := [], alts := [], laidByText := true, laidKinds := [.data, .data], laidTests := true, laidLooks := .later }
def RestoreSafeUptoCardSaid : Prop := Claim7.holds Tryz.pinned (.plain (OpenSpec.upto restoreSafeSpec)) restoreSafeUptoCard
end Rows
end Go.Proofs.YtfaknfmndafllaaGreatDoor
