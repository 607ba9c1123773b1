/-
  DERIVED. GIVEN WITH THE SEED: THE CARDS: each row of YtepicjpdhpojnaaGreatDoorRows.lean that lists a variable, with what it lists TIED to the program's text (the seventh form; the later family's looks); each row that meets fmt, with fmt's text TOLD by the authors' own Lean function (tested against real Go, not proved from fmt's source: count such statements apart). THE CARD IS WHAT COUNTS. Prove the row's statement (the work); the ties are given (YtepicjpdhpojnaaGreatDoorTie.lean); close each card by the builder's one call (the guide's Derived/Test/ToyasCard.lean, 'card_holds'). Laid BY PROGRAM, IN A SANDBOX (cutbox-door.mjs). By AI agents, Wed Nov 11 2026. No macro, syntax, notation, axiom, sorry.
-/
import Derived.Test.YtepicjpdhpojnaaGreatDoorRows
import GoSem.ClaimSeven
namespace Go.Proofs.YtepicjpdhpojnaaGreatDoor
namespace Rows

/-- THE TIED CARD OF 'permitofficelaw37.FieldSecure'. -/
def fieldSecureCard : Claim7 := { stood := { row := fieldSecureRow, standIns := [], harness := (true, "beb17db0301644f4c9989c79e6ac014ad406436c149abbfe63216411f289531c"), looks := false }, kinds := [], alts := [], laidByText := true, laidKinds := [.data, .data], laidTests := true, laidLooks := .later }
def FieldSecureCardSaid : Prop := Claim7.holds Tryz.pinned (.plain (OpenSpec.ofChange fieldSecureSpec)) fieldSecureCard

/-- THE TIED CARD OF 'permitofficelaw37.FieldShows'. -/
def fieldShowsCard : Claim7 := { stood := { row := fieldShowsRow, standIns := [], harness := (true, "beb17db0301644f4c9989c79e6ac014ad406436c149abbfe63216411f289531c"), looks := false }, kinds := [], alts := [], laidByText := true, laidKinds := [.data, .data], laidTests := true, laidLooks := .later }
def FieldShowsCardSaid : Prop := Claim7.holds Tryz.pinned (.plain (OpenSpec.ofChange fieldShowsSpec)) fieldShowsCard

/-- THE TIED CARD OF 'permitofficelaw37.FieldLive'. -/
def fieldLiveCard : Claim7 := { stood := { row := fieldLiveRow, standIns := [], harness := (true, "beb17db0301644f4c9989c79e6ac014ad406436c149abbfe63216411f289531c"), looks := false }, kinds := [], alts := [], laidByText := true, laidKinds := [.data, .data], laidTests := true, laidLooks := .later }
def FieldLiveCardSaid : Prop := Claim7.holds Tryz.pinned (.plain (OpenSpec.ofChange fieldLiveSpec)) fieldLiveCard

/-- THE TIED CARD OF 'permitofficelaw37.FieldExact'. -/
def fieldExactCard : Claim7 := { stood := { row := fieldExactRow, standIns := [], harness := (true, "beb17db0301644f4c9989c79e6ac014ad406436c149abbfe63216411f289531c"), looks := false }, kinds := [], alts := [], laidByText := true, laidKinds := [.data, .data], laidTests := true, laidLooks := .later }
def FieldExactCardSaid : Prop := Claim7.holds Tryz.pinned (.plain (OpenSpec.ofChange fieldExactSpec)) fieldExactCard

/-- THE SECOND FORM's CARD OF 'permitofficelaw37.FieldSecure'. -/
def fieldSecureUptoCard : Claim7 := { stood := { row := fieldSecureUptoRow, standIns := [], harness := (true, "beb17db0301644f4c9989c79e6ac014ad406436c149abbfe63216411f289531c"), looks := false }, kinds := [], alts := [], laidByText := true, laidKinds := [.data, .data], laidTests := true, laidLooks := .later }
def FieldSecureUptoCardSaid : Prop := Claim7.holds Tryz.pinned (.plain (OpenSpec.upto fieldSecureSpec)) fieldSecureUptoCard

/-- THE SECOND FORM's CARD OF 'permitofficelaw37.FieldShows'. -/
def fieldShowsUptoCard : Claim7 := { stood := { row := fieldShowsUptoRow, standIns := [], harness := (true, "beb17db0301644f4c9989c79e6ac014ad406436c149abbfe63216411f289531c"), looks := false }, kinds := [], alts := [], laidByText := true, laidKinds := [.data, .data], laidTests := true, laidLooks := .later }
def FieldShowsUptoCardSaid : Prop := Claim7.holds Tryz.pinned (.plain (OpenSpec.upto fieldShowsSpec)) fieldShowsUptoCard

/-- THE SECOND FORM's CARD OF 'permitofficelaw37.FieldLive'. -/
def fieldLiveUptoCard : Claim7 := { stood := { row := fieldLiveUptoRow, standIns := [], harness := (true, "beb17db0301644f4c9989c79e6ac014ad406436c149abbfe63216411f289531c"), looks := false }, kinds := [], alts := [], laidByText := true, laidKinds := [.data, .data], laidTests := true, laidLooks := .later }
def FieldLiveUptoCardSaid : Prop := Claim7.holds Tryz.pinned (.plain (OpenSpec.upto fieldLiveSpec)) fieldLiveUptoCard

/-- THE SECOND FORM's CARD OF 'permitofficelaw37.FieldExact'. -/
def fieldExactUptoCard : Claim7 := { stood := { row := fieldExactUptoRow, standIns := [], harness := (true, "beb17db0301644f4c9989c79e6ac014ad406436c149abbfe63216411f289531c"), looks := false }, kinds := [], alts := [], laidByText := true, laidKinds := [.data, .data], laidTests := true, laidLooks := .later }
def FieldExactUptoCardSaid : Prop := Claim7.holds Tryz.pinned (.plain (OpenSpec.upto fieldExactSpec)) fieldExactUptoCard
end Rows
end Go.Proofs.YtepicjpdhpojnaaGreatDoor
