/-
  DERIVED. GIVEN WITH THE SEED: THE CARDS: each row of YtlcaebfjdhgcfaaDoorRows.lean that lists a variable, with what it lists TIED to the program's text (the seventh form; the later family's looks); each row that meets fmt, with fmt's text TOLD by the authors' own Lean function (tested against real Go, not proved from fmt's source: count such statements apart). THE CARD IS WHAT COUNTS. Prove the row's statement (the work); the ties are given (YtlcaebfjdhgcfaaDoorTie.lean); close each card by the builder's one call (the guide's Derived/Test/ToyasCard.lean, 'card_holds'). Laid BY PROGRAM, IN A SANDBOX (cutbox-door.mjs). By AI agents, Wed Nov 11 2026. No macro, syntax, notation, axiom, sorry.
-/
import Derived.Test.YtlcaebfjdhgcfaaDoorRows
import GoSem.ClaimSeven
namespace Go.Proofs.YtlcaebfjdhgcfaaDoor
namespace Rows

/-- THE TIED CARD OF 'permitofficelaw37.FieldLocked'. -/
def fieldLockedCard : Claim7 := { stood := { row := fieldLockedRow, standIns := [], harness := (true, "f0d721c702025a14a8d296db61ccea32d41b645a570afdafdc5462512d8f7274"), looks := false }, kinds := [], alts := [], laidByText := true, laidKinds := [.data, .data], laidTests := true, laidLooks := .later }
def FieldLockedCardSaid : Prop := Claim7.holds Tryd.pinned (.plain (OpenSpec.ofChange fieldLockedSpec)) fieldLockedCard

/-- THE TIED CARD OF 'permitofficelaw37.FieldStuck'. -/
def fieldStuckCard : Claim7 := { stood := { row := fieldStuckRow, standIns := [], harness := (true, "f0d721c702025a14a8d296db61ccea32d41b645a570afdafdc5462512d8f7274"), looks := false }, kinds := [], alts := [], laidByText := true, laidKinds := [.data, .data], laidTests := true, laidLooks := .later }
def FieldStuckCardSaid : Prop := Claim7.holds Tryd.pinned (.plain (OpenSpec.ofChange fieldStuckSpec)) fieldStuckCard

/-- THE TIED CARD OF 'permitofficelaw37.FieldBack'. -/
def fieldBackCard : Claim7 := { stood := { row := fieldBackRow, standIns := [], harness := (true, "f0d721c702025a14a8d296db61ccea32d41b645a570afdafdc5462512d8f7274"), looks := false }, kinds := [], alts := [], laidByText := true, laidKinds := [.data, .data], laidTests := true, laidLooks := .later }
def FieldBackCardSaid : Prop := Claim7.holds Tryd.pinned (.plain (OpenSpec.ofChange fieldBackSpec)) fieldBackCard

/-- THE SECOND FORM's CARD OF 'permitofficelaw37.FieldLocked'. -/
def fieldLockedUptoCard : Claim7 := { stood := { row := fieldLockedUptoRow, standIns := [], harness := (true, "f0d721c702025a14a8d296db61ccea32d41b645a570afdafdc5462512d8f7274"), looks := false }, kinds := [], alts := [], laidByText := true, laidKinds := [.data, .data], laidTests := true, laidLooks := .later }
def FieldLockedUptoCardSaid : Prop := Claim7.holds Tryd.pinned (.plain (OpenSpec.upto fieldLockedSpec)) fieldLockedUptoCard

/-- THE SECOND FORM's CARD OF 'permitofficelaw37.FieldStuck'. -/
def fieldStuckUptoCard : Claim7 := { stood := { row := fieldStuckUptoRow, standIns := [], harness := (true, "f0d721c702025a14a8d296db61ccea32d41b645a570afdafdc5462512d8f7274"), looks := false }, kinds := [], alts := [], laidByText := true, laidKinds := [.data, .data], laidTests := true, laidLooks := .later }
def FieldStuckUptoCardSaid : Prop := Claim7.holds Tryd.pinned (.plain (OpenSpec.upto fieldStuckSpec)) fieldStuckUptoCard

/-- THE SECOND FORM's CARD OF 'permitofficelaw37.FieldBack'. -/
def fieldBackUptoCard : Claim7 := { stood := { row := fieldBackUptoRow, standIns := [], harness := (true, "f0d721c702025a14a8d296db61ccea32d41b645a570afdafdc5462512d8f7274"), looks := false }, kinds := [], alts := [], laidByText := true, laidKinds := [.data, .data], laidTests := true, laidLooks := .later }
def FieldBackUptoCardSaid : Prop := Claim7.holds Tryd.pinned (.plain (OpenSpec.upto fieldBackSpec)) fieldBackUptoCard
end Rows
end Go.Proofs.YtlcaebfjdhgcfaaDoor
