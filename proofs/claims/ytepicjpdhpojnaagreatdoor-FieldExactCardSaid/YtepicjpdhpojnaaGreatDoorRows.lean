/-
  NARROWER THAN 'FOR EVERY INPUT', by the rows' own cells (each row's printed sentence says how): FieldSecure: laid · FieldShows: laid · FieldLive: laid · FieldExact: laid.
  DERIVED. THE GIVEN ROWS OF THIS SEAT. 4 by the template 'for every input the law returns true; each argument reads behind the call as it read before'; 0 by the template 'total and deterministic' (their statements: YtepicjpdhpojnaaGreatDoorTotals.lean).
  GIVEN WITH THE SEED: the statements are not yours to turn. If you find one false, say at which input.
  Laid BY PROGRAM, IN A SANDBOX (cutbox-rows.mjs): the forced cells as the released guide's own fill.sh prints them over the translation 899a96e0723585d3… (all of the seat's roots in one cut). By AI agents, Wed Nov 11 2026. No macro, syntax, notation, axiom, sorry.
-/
import Derived.Test.YtepicjpdhpojnaaGreatDoorChecked
import GoSem.Claim
import GoSem.ClaimJoined
import GoSem.ClaimMapViews
import Derived.JoinedTies
import Derived.KernelRfl
namespace Go.Proofs.YtepicjpdhpojnaaGreatDoor
/- THE CELL 'sum', in the pinned program and in every row, IS THE sha256 OF THE DUMP (.gsa) THAT YtepicjpdhpojnaaGreatDoorProg.lean LOADS. Nothing in Lean hashes anything: it is a label: what it is worth is what the hold of that sum in a sandbox is worth. -/
noncomputable def Tryz.pinned : Pinned := { name := "ytepicjpdhpojnaagreatdoor", sum := "899a96e0723585d33fc22d9d36144efa0c8a0463aa2d65f75c7dd8018d42edfa", checked := Tryz.checked }
namespace Rows
def none {H : Type} : Left H := { results := [], args := [] }

/- WHAT THE LISTED PACKAGE-LEVEL VARIABLES READ AS WHEN THE CALL BEGINS. Each datum BY PROGRAM (the guide's laid-datum.mjs) off the statement by which the dump's own 'gosem.cut.vars' lays the variable. In a bare row this is a premise. The card (YtepicjpdhpojnaaGreatDoorCards.lean) ties it to the program's text. -/
def laid_permitoffice_lexeme_classes {H : Type} : DataW H := .agg [.agg [.lit (.int .u8 65), .lit (.int .u8 90), .lit (.bool true)], .agg [.lit (.int .u8 97), .lit (.int .u8 122), .lit (.bool true)], .agg [.lit (.int .u8 48), .lit (.int .u8 57), .lit (.bool false)], .agg [.lit (.int .u8 95), .lit (.int .u8 95), .lit (.bool false)]]
def laid_permitoffice_mask_positions {H : Type} : DataW H := .agg [.agg [.lit (.bool false), .lit (.bool false)], .agg [.lit (.bool true), .lit (.bool true)], .agg [.lit (.bool true), .lit (.bool true)], .agg [.lit (.bool true), .lit (.bool false)]]

/-- 'permitofficelaw37.FieldSecure': WHATEVER THE INPUT: true; the input reads as it did. -/
def fieldSecureSpec : ChangeSpec := { name := "fieldSecure", fn := fun _ => fun
  | [d] => { results := [.lit (.bool true)], args := [d] }
  | _ => none }
def fieldSecureRow : OpenClaim := { program := "ytepicjpdhpojnaagreatdoor", sum := "899a96e0723585d33fc22d9d36144efa0c8a0463aa2d65f75c7dd8018d42edfa", func := "permitoffice/permitofficelaw37.FieldSecure", spec := "fieldSecure", inPlace := ["slices.overlaps[int]"], unfollowed := true, recurses := true, named := ["permitoffice/lexeme.classes", "permitoffice/mask.positions"], apart := false, laid := [("permitoffice/lexeme.classes", laid_permitoffice_lexeme_classes), ("permitoffice/mask.positions", laid_permitoffice_mask_positions)] }
def FieldSecureSaid : Prop := fieldSecureRow.holds Tryz.pinned (OpenSpec.ofChange fieldSecureSpec)

/-- ITS FALSE NEIGHBOUR: 'it returns false'. Refute it at one input. -/
def fieldSecureWrong : ChangeSpec := { name := "fieldSecure", fn := fun _ => fun
  | [d] => { results := [.lit (.bool false)], args := [d] }
  | _ => none }
def FieldSecureWrongFalsely : Prop := fieldSecureRow.holds Tryz.pinned (OpenSpec.ofChange fieldSecureWrong)

/-- 'permitofficelaw37.FieldShows': WHATEVER THE INPUT: true; the input reads as it did. -/
def fieldShowsSpec : ChangeSpec := { name := "fieldShows", fn := fun _ => fun
  | [d] => { results := [.lit (.bool true)], args := [d] }
  | _ => none }
def fieldShowsRow : OpenClaim := { program := "ytepicjpdhpojnaagreatdoor", sum := "899a96e0723585d33fc22d9d36144efa0c8a0463aa2d65f75c7dd8018d42edfa", func := "permitoffice/permitofficelaw37.FieldShows", spec := "fieldShows", inPlace := ["slices.overlaps[int]"], unfollowed := true, recurses := true, named := ["permitoffice/lexeme.classes", "permitoffice/mask.positions"], apart := false, laid := [("permitoffice/lexeme.classes", laid_permitoffice_lexeme_classes), ("permitoffice/mask.positions", laid_permitoffice_mask_positions)] }
def FieldShowsSaid : Prop := fieldShowsRow.holds Tryz.pinned (OpenSpec.ofChange fieldShowsSpec)

/-- ITS FALSE NEIGHBOUR: 'it returns false'. Refute it at one input. -/
def fieldShowsWrong : ChangeSpec := { name := "fieldShows", fn := fun _ => fun
  | [d] => { results := [.lit (.bool false)], args := [d] }
  | _ => none }
def FieldShowsWrongFalsely : Prop := fieldShowsRow.holds Tryz.pinned (OpenSpec.ofChange fieldShowsWrong)

/-- 'permitofficelaw37.FieldLive': WHATEVER THE INPUT: true; the input reads as it did. -/
def fieldLiveSpec : ChangeSpec := { name := "fieldLive", fn := fun _ => fun
  | [d] => { results := [.lit (.bool true)], args := [d] }
  | _ => none }
def fieldLiveRow : OpenClaim := { program := "ytepicjpdhpojnaagreatdoor", sum := "899a96e0723585d33fc22d9d36144efa0c8a0463aa2d65f75c7dd8018d42edfa", func := "permitoffice/permitofficelaw37.FieldLive", spec := "fieldLive", inPlace := ["slices.overlaps[int]"], unfollowed := true, recurses := true, named := ["permitoffice/lexeme.classes", "permitoffice/mask.positions"], apart := false, laid := [("permitoffice/lexeme.classes", laid_permitoffice_lexeme_classes), ("permitoffice/mask.positions", laid_permitoffice_mask_positions)] }
def FieldLiveSaid : Prop := fieldLiveRow.holds Tryz.pinned (OpenSpec.ofChange fieldLiveSpec)

/-- ITS FALSE NEIGHBOUR: 'it returns false'. Refute it at one input. -/
def fieldLiveWrong : ChangeSpec := { name := "fieldLive", fn := fun _ => fun
  | [d] => { results := [.lit (.bool false)], args := [d] }
  | _ => none }
def FieldLiveWrongFalsely : Prop := fieldLiveRow.holds Tryz.pinned (OpenSpec.ofChange fieldLiveWrong)

/-- 'permitofficelaw37.FieldExact': WHATEVER THE INPUT: true; the input reads as it did. -/
def fieldExactSpec : ChangeSpec := { name := "fieldExact", fn := fun _ => fun
  | [d1, d2, d3, d4, d5] => { results := [.lit (.bool true)], args := [d1, d2, d3, d4, d5] }
  | _ => none }
def fieldExactRow : OpenClaim := { program := "ytepicjpdhpojnaagreatdoor", sum := "899a96e0723585d33fc22d9d36144efa0c8a0463aa2d65f75c7dd8018d42edfa", func := "permitoffice/permitofficelaw37.FieldExact", spec := "fieldExact", inPlace := ["slices.overlaps[int]"], unfollowed := true, recurses := true, named := ["permitoffice/lexeme.classes", "permitoffice/mask.positions"], apart := false, laid := [("permitoffice/lexeme.classes", laid_permitoffice_lexeme_classes), ("permitoffice/mask.positions", laid_permitoffice_mask_positions)] }
def FieldExactSaid : Prop := fieldExactRow.holds Tryz.pinned (OpenSpec.ofChange fieldExactSpec)

/-- ITS FALSE NEIGHBOUR: 'it returns false'. Refute it at one input. -/
def fieldExactWrong : ChangeSpec := { name := "fieldExact", fn := fun _ => fun
  | [d1, d2, d3, d4, d5] => { results := [.lit (.bool false)], args := [d1, d2, d3, d4, d5] }
  | _ => none }
def FieldExactWrongFalsely : Prop := fieldExactRow.holds Tryz.pinned (OpenSpec.ofChange fieldExactWrong)

/- THE SECOND FORM. 'bulk': how many values and letters a reading holds, each counted each time it is reached (what is shared counts as often as it is met; a slice's spare places count too). A statement '..UptoSaid' is the law's where the arguments, and the package variables that the reading takes, are together of bulk at most 1048576: NARROWER than '..Said'. Prove '..Said' where nothing that the law and all that it calls make is longer than what came in: it says more and counts as full. Else prove '..UptoSaid'. A law counts once. -/
mutual
def uptoBulk {H : Type} : DataW H → Nat
  | .lit (.string bytes) => bytes.length + 1
  | .lit _ => 1
  | .nil => 1
  | .ptr d => uptoBulk d + 1
  | .slice elems spare => uptoBulkAll elems + uptoBulkAll spare + 1
  | .agg parts => uptoBulkAll parts + 1
  | .iface _ d => uptoBulk d + 1
  | .map entries => uptoBulkEntries entries + 1
  | .held _ => 1
def uptoBulkAll {H : Type} : List (DataW H) → Nat
  | [] => 0
  | d :: r => uptoBulk d + uptoBulkAll r
def uptoBulkEntries {H : Type} : List (Lit × DataW H) → Nat
  | [] => 0
  | x :: r => uptoBulkEntry x + uptoBulkEntries r
def uptoBulkEntry {H : Type} : Lit × DataW H → Nat
  | (.string bytes, d) => bytes.length + uptoBulk d + 1
  | (_, d) => uptoBulk d + 1
 end
def uptoSmall : (H : Type) → List (DataW H) → Bool := fun _ ds => decide (uptoBulkAll ds ≤ 1048576)
def OpenSpec.upto (s : _root_.Go.ChangeSpec) : _root_.Go.OpenSpec := { _root_.Go.OpenSpec.ofChange s with cond := some uptoSmall }

/-- 'permitofficelaw37.FieldSecure', WHERE WHAT IT READS IS OF BULK AT MOST 1048576: true; the input reads as it did. -/
def fieldSecureUptoRow : OpenClaim := { program := "ytepicjpdhpojnaagreatdoor", sum := "899a96e0723585d33fc22d9d36144efa0c8a0463aa2d65f75c7dd8018d42edfa", func := "permitoffice/permitofficelaw37.FieldSecure", spec := "fieldSecure", inPlace := ["slices.overlaps[int]"], unfollowed := true, recurses := true, named := ["permitoffice/lexeme.classes", "permitoffice/mask.positions"], apart := false, laid := [("permitoffice/lexeme.classes", laid_permitoffice_lexeme_classes), ("permitoffice/mask.positions", laid_permitoffice_mask_positions)], narrowed := true }
def FieldSecureUptoSaid : Prop := fieldSecureUptoRow.holds Tryz.pinned (OpenSpec.upto fieldSecureSpec)

/-- 'permitofficelaw37.FieldShows', WHERE WHAT IT READS IS OF BULK AT MOST 1048576: true; the input reads as it did. -/
def fieldShowsUptoRow : OpenClaim := { program := "ytepicjpdhpojnaagreatdoor", sum := "899a96e0723585d33fc22d9d36144efa0c8a0463aa2d65f75c7dd8018d42edfa", func := "permitoffice/permitofficelaw37.FieldShows", spec := "fieldShows", inPlace := ["slices.overlaps[int]"], unfollowed := true, recurses := true, named := ["permitoffice/lexeme.classes", "permitoffice/mask.positions"], apart := false, laid := [("permitoffice/lexeme.classes", laid_permitoffice_lexeme_classes), ("permitoffice/mask.positions", laid_permitoffice_mask_positions)], narrowed := true }
def FieldShowsUptoSaid : Prop := fieldShowsUptoRow.holds Tryz.pinned (OpenSpec.upto fieldShowsSpec)

/-- 'permitofficelaw37.FieldLive', WHERE WHAT IT READS IS OF BULK AT MOST 1048576: true; the input reads as it did. -/
def fieldLiveUptoRow : OpenClaim := { program := "ytepicjpdhpojnaagreatdoor", sum := "899a96e0723585d33fc22d9d36144efa0c8a0463aa2d65f75c7dd8018d42edfa", func := "permitoffice/permitofficelaw37.FieldLive", spec := "fieldLive", inPlace := ["slices.overlaps[int]"], unfollowed := true, recurses := true, named := ["permitoffice/lexeme.classes", "permitoffice/mask.positions"], apart := false, laid := [("permitoffice/lexeme.classes", laid_permitoffice_lexeme_classes), ("permitoffice/mask.positions", laid_permitoffice_mask_positions)], narrowed := true }
def FieldLiveUptoSaid : Prop := fieldLiveUptoRow.holds Tryz.pinned (OpenSpec.upto fieldLiveSpec)

/-- 'permitofficelaw37.FieldExact', WHERE WHAT IT READS IS OF BULK AT MOST 1048576: true; the input reads as it did. -/
def fieldExactUptoRow : OpenClaim := { program := "ytepicjpdhpojnaagreatdoor", sum := "899a96e0723585d33fc22d9d36144efa0c8a0463aa2d65f75c7dd8018d42edfa", func := "permitoffice/permitofficelaw37.FieldExact", spec := "fieldExact", inPlace := ["slices.overlaps[int]"], unfollowed := true, recurses := true, named := ["permitoffice/lexeme.classes", "permitoffice/mask.positions"], apart := false, laid := [("permitoffice/lexeme.classes", laid_permitoffice_lexeme_classes), ("permitoffice/mask.positions", laid_permitoffice_mask_positions)], narrowed := true }
def FieldExactUptoSaid : Prop := fieldExactUptoRow.holds Tryz.pinned (OpenSpec.upto fieldExactSpec)

end Rows
end Go.Proofs.YtepicjpdhpojnaaGreatDoor
