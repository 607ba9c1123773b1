/-
  NARROWER THAN 'FOR EVERY INPUT', by the rows' own cells (each row's printed sentence says how): DutyEither: laid · DutyLoads: laid · DutyDark: laid · DutyOver: laid.
  DERIVED. THE GIVEN ROWS OF THIS SEAT. 4 by the template 'for every input the law returns true; each argument reads behind the call as it read before'; 0 by the template 'total and deterministic' (their statements: YtddjifkmaogpiaaDoorTotals.lean).
  GIVEN WITH THE SEED: the statements are not yours to turn. If you find one false, say at which input.
  Laid BY PROGRAM, IN A SANDBOX (cutbox-rows.mjs): the forced cells as the released guide's own fill.sh prints them over the translation 1150d9adf323f5eb… (all of the seat's roots in one cut). By AI agents, Wed Nov 11 2026. No macro, syntax, notation, axiom, sorry.
-/
import Derived.Test.YtddjifkmaogpiaaDoorChecked
import GoSem.Claim
import GoSem.ClaimJoined
import GoSem.ClaimMapViews
import Derived.JoinedTies
import Derived.KernelRfl
namespace Go.Proofs.YtddjifkmaogpiaaDoor
/- THE CELL 'sum', in the pinned program and in every row, IS THE sha256 OF THE DUMP (.gsa) THAT YtddjifkmaogpiaaDoorProg.lean LOADS. Nothing in Lean hashes anything: it is a label: what it is worth is what the hold of that sum in a sandbox is worth. -/
noncomputable def Tryd.pinned : Pinned := { name := "ytddjifkmaogpiaadoor", sum := "1150d9adf323f5eb7b064f7fbb0289fb71708d2a25b40ee1cc26b068f8eab14f", checked := Tryd.checked }
namespace Rows
def none {H : Type} : Left H := { results := [], args := [] }

/- WHAT THE LISTED PACKAGE-LEVEL VARIABLES READ AS WHEN THE CALL BEGINS. Each datum BY PROGRAM (the guide's laid-datum.mjs) off the statement by which the dump's own 'gosem.cut.vars' lays the variable. In a bare row this is a premise. The card (YtddjifkmaogpiaaDoorCards.lean) ties it to the program's text. -/
def laid_permitoffice_lexeme_classes {H : Type} : DataW H := .agg [.agg [.lit (.int .u8 65), .lit (.int .u8 90), .lit (.bool true)], .agg [.lit (.int .u8 97), .lit (.int .u8 122), .lit (.bool true)], .agg [.lit (.int .u8 48), .lit (.int .u8 57), .lit (.bool false)], .agg [.lit (.int .u8 95), .lit (.int .u8 95), .lit (.bool false)]]
def laid_permitoffice_mask_positions {H : Type} : DataW H := .agg [.agg [.lit (.bool false), .lit (.bool false)], .agg [.lit (.bool true), .lit (.bool true)], .agg [.lit (.bool true), .lit (.bool true)], .agg [.lit (.bool true), .lit (.bool false)]]

/-- 'permitofficelaw12.DutyEither': WHATEVER THE INPUT: true; the input reads as it did. -/
def dutyEitherSpec : ChangeSpec := { name := "dutyEither", fn := fun _ => fun
  | [d] => { results := [.lit (.bool true)], args := [d] }
  | _ => none }
def dutyEitherRow : OpenClaim := { program := "ytddjifkmaogpiaadoor", sum := "1150d9adf323f5eb7b064f7fbb0289fb71708d2a25b40ee1cc26b068f8eab14f", func := "permitoffice/permitofficelaw12.DutyEither", spec := "dutyEither", unfollowed := true, recurses := true, named := ["permitoffice/lexeme.classes", "permitoffice/mask.positions"], apart := false, laid := [("permitoffice/lexeme.classes", laid_permitoffice_lexeme_classes), ("permitoffice/mask.positions", laid_permitoffice_mask_positions)] }
def DutyEitherSaid : Prop := dutyEitherRow.holds Tryd.pinned (OpenSpec.ofChange dutyEitherSpec)

/-- ITS FALSE NEIGHBOUR: 'it returns false'. Refute it at one input. -/
def dutyEitherWrong : ChangeSpec := { name := "dutyEither", fn := fun _ => fun
  | [d] => { results := [.lit (.bool false)], args := [d] }
  | _ => none }
def DutyEitherWrongFalsely : Prop := dutyEitherRow.holds Tryd.pinned (OpenSpec.ofChange dutyEitherWrong)

/-- 'permitofficelaw12.DutyLoads': WHATEVER THE INPUT: true; the input reads as it did. -/
def dutyLoadsSpec : ChangeSpec := { name := "dutyLoads", fn := fun _ => fun
  | [d] => { results := [.lit (.bool true)], args := [d] }
  | _ => none }
def dutyLoadsRow : OpenClaim := { program := "ytddjifkmaogpiaadoor", sum := "1150d9adf323f5eb7b064f7fbb0289fb71708d2a25b40ee1cc26b068f8eab14f", func := "permitoffice/permitofficelaw12.DutyLoads", spec := "dutyLoads", unfollowed := true, recurses := true, named := ["permitoffice/lexeme.classes", "permitoffice/mask.positions"], apart := false, laid := [("permitoffice/lexeme.classes", laid_permitoffice_lexeme_classes), ("permitoffice/mask.positions", laid_permitoffice_mask_positions)] }
def DutyLoadsSaid : Prop := dutyLoadsRow.holds Tryd.pinned (OpenSpec.ofChange dutyLoadsSpec)

/-- ITS FALSE NEIGHBOUR: 'it returns false'. Refute it at one input. -/
def dutyLoadsWrong : ChangeSpec := { name := "dutyLoads", fn := fun _ => fun
  | [d] => { results := [.lit (.bool false)], args := [d] }
  | _ => none }
def DutyLoadsWrongFalsely : Prop := dutyLoadsRow.holds Tryd.pinned (OpenSpec.ofChange dutyLoadsWrong)

/-- 'permitofficelaw12.DutyDark': WHATEVER THE INPUT: true; the input reads as it did. -/
def dutyDarkSpec : ChangeSpec := { name := "dutyDark", fn := fun _ => fun
  | [d] => { results := [.lit (.bool true)], args := [d] }
  | _ => none }
def dutyDarkRow : OpenClaim := { program := "ytddjifkmaogpiaadoor", sum := "1150d9adf323f5eb7b064f7fbb0289fb71708d2a25b40ee1cc26b068f8eab14f", func := "permitoffice/permitofficelaw12.DutyDark", spec := "dutyDark", unfollowed := true, recurses := true, named := ["permitoffice/lexeme.classes", "permitoffice/mask.positions"], apart := false, laid := [("permitoffice/lexeme.classes", laid_permitoffice_lexeme_classes), ("permitoffice/mask.positions", laid_permitoffice_mask_positions)] }
def DutyDarkSaid : Prop := dutyDarkRow.holds Tryd.pinned (OpenSpec.ofChange dutyDarkSpec)

/-- ITS FALSE NEIGHBOUR: 'it returns false'. Refute it at one input. -/
def dutyDarkWrong : ChangeSpec := { name := "dutyDark", fn := fun _ => fun
  | [d] => { results := [.lit (.bool false)], args := [d] }
  | _ => none }
def DutyDarkWrongFalsely : Prop := dutyDarkRow.holds Tryd.pinned (OpenSpec.ofChange dutyDarkWrong)

/-- 'permitofficelaw12.DutyOver': WHATEVER THE INPUT: true; the input reads as it did. -/
def dutyOverSpec : ChangeSpec := { name := "dutyOver", fn := fun _ => fun
  | [d] => { results := [.lit (.bool true)], args := [d] }
  | _ => none }
def dutyOverRow : OpenClaim := { program := "ytddjifkmaogpiaadoor", sum := "1150d9adf323f5eb7b064f7fbb0289fb71708d2a25b40ee1cc26b068f8eab14f", func := "permitoffice/permitofficelaw12.DutyOver", spec := "dutyOver", unfollowed := true, recurses := true, named := ["permitoffice/lexeme.classes", "permitoffice/mask.positions"], apart := false, laid := [("permitoffice/lexeme.classes", laid_permitoffice_lexeme_classes), ("permitoffice/mask.positions", laid_permitoffice_mask_positions)] }
def DutyOverSaid : Prop := dutyOverRow.holds Tryd.pinned (OpenSpec.ofChange dutyOverSpec)

/-- ITS FALSE NEIGHBOUR: 'it returns false'. Refute it at one input. -/
def dutyOverWrong : ChangeSpec := { name := "dutyOver", fn := fun _ => fun
  | [d] => { results := [.lit (.bool false)], args := [d] }
  | _ => none }
def DutyOverWrongFalsely : Prop := dutyOverRow.holds Tryd.pinned (OpenSpec.ofChange dutyOverWrong)

/- THE SECOND FORM. 'bulk': how many values and letters a reading holds, each counted each time it is reached (what is shared counts as often as it is met; a slice's spare places count too). A statement '..UptoSaid' is the law's where the arguments, and the package variables that the reading takes, are together of bulk at most 1048576: NARROWER than '..Said'. Prove '..Said' where nothing that the law and all that it calls make is longer than what came in: it says more and counts as full. Else prove '..UptoSaid'. A law counts once. -/
mutual
def uptoBulk {H : Type} : DataW H → Nat
  | .lit (.string bytes) => bytes.length + 1
  | .lit _ => 1
  | .nil => 1
  | .ptr d => uptoBulk d + 1
  | .slice elems spare => uptoBulkAll elems + uptoBulkAll spare + 1
  | .agg parts => uptoBulkAll parts + 1
  | .iface _ d => uptoBulk d + 1
  | .map entries => uptoBulkEntries entries + 1
  | .held _ => 1
def uptoBulkAll {H : Type} : List (DataW H) → Nat
  | [] => 0
  | d :: r => uptoBulk d + uptoBulkAll r
def uptoBulkEntries {H : Type} : List (Lit × DataW H) → Nat
  | [] => 0
  | x :: r => uptoBulkEntry x + uptoBulkEntries r
def uptoBulkEntry {H : Type} : Lit × DataW H → Nat
  | (.string bytes, d) => bytes.length + uptoBulk d + 1
  | (_, d) => uptoBulk d + 1
 end
def uptoSmall : (H : Type) → List (DataW H) → Bool := fun _ ds => decide (uptoBulkAll ds ≤ 1048576)
def OpenSpec.upto (s : _root_.Go.ChangeSpec) : _root_.Go.OpenSpec := { _root_.Go.OpenSpec.ofChange s with cond := some uptoSmall }

/-- 'permitofficelaw12.DutyEither', WHERE WHAT IT READS IS OF BULK AT MOST 1048576: true; the input reads as it did. -/
def dutyEitherUptoRow : OpenClaim := { program := "ytddjifkmaogpiaadoor", sum := "1150d9adf323f5eb7b064f7fbb0289fb71708d2a25b40ee1cc26b068f8eab14f", func := "permitoffice/permitofficelaw12.DutyEither", spec := "dutyEither", unfollowed := true, recurses := true, named := ["permitoffice/lexeme.classes", "permitoffice/mask.positions"], apart := false, laid := [("permitoffice/lexeme.classes", laid_permitoffice_lexeme_classes), ("permitoffice/mask.positions", laid_permitoffice_mask_positions)], narrowed := true }
def DutyEitherUptoSaid : Prop := dutyEitherUptoRow.holds Tryd.pinned (OpenSpec.upto dutyEitherSpec)

/-- 'permitofficelaw12.DutyLoads', WHERE WHAT IT READS IS OF BULK AT MOST 1048576: true; the input reads as it did. -/
def dutyLoadsUptoRow : OpenClaim := { program := "ytddjifkmaogpiaadoor", sum := "1150d9adf323f5eb7b064f7fbb0289fb71708d2a25b40ee1cc26b068f8eab14f", func := "permitoffice/permitofficelaw12.DutyLoads", spec := "dutyLoads", unfollowed := true, recurses := true, named := ["permitoffice/lexeme.classes", "permitoffice/mask.positions"], apart := false, laid := [("permitoffice/lexeme.classes", laid_permitoffice_lexeme_classes), ("permitoffice/mask.positions", laid_permitoffice_mask_positions)], narrowed := true }
def DutyLoadsUptoSaid : Prop := dutyLoadsUptoRow.holds Tryd.pinned (OpenSpec.upto dutyLoadsSpec)

/-- 'permitofficelaw12.DutyDark', WHERE WHAT IT READS IS OF BULK AT MOST 1048576: true; the input reads as it did. -/
def dutyDarkUptoRow : OpenClaim := { program := "ytddjifkmaogpiaadoor", sum := "1150d9adf323f5eb7b064f7fbb0289fb71708d2a25b40ee1cc26b068f8eab14f", func := "permitoffice/permitofficelaw12.DutyDark", spec := "dutyDark", unfollowed := true, recurses := true, named := ["permitoffice/lexeme.classes", "permitoffice/mask.positions"], apart := false, laid := [("permitoffice/lexeme.classes", laid_permitoffice_lexeme_classes), ("permitoffice/mask.positions", laid_permitoffice_mask_positions)], narrowed := true }
def DutyDarkUptoSaid : Prop := dutyDarkUptoRow.holds Tryd.pinned (OpenSpec.upto dutyDarkSpec)

/-- 'permitofficelaw12.DutyOver', WHERE WHAT IT READS IS OF BULK AT MOST 1048576: true; the input reads as it did. -/
def dutyOverUptoRow : OpenClaim := { program := "ytddjifkmaogpiaadoor", sum := "1150d9adf323f5eb7b064f7fbb0289fb71708d2a25b40ee1cc26b068f8eab14f", func := "permitoffice/permitofficelaw12.DutyOver", spec := "dutyOver", unfollowed := true, recurses := true, named := ["permitoffice/lexeme.classes", "permitoffice/mask.positions"], apart := false, laid := [("permitoffice/lexeme.classes", laid_permitoffice_lexeme_classes), ("permitoffice/mask.positions", laid_permitoffice_mask_positions)], narrowed := true }
def DutyOverUptoSaid : Prop := dutyOverUptoRow.holds Tryd.pinned (OpenSpec.upto dutyOverSpec)

end Rows
end Go.Proofs.YtddjifkmaogpiaaDoor
