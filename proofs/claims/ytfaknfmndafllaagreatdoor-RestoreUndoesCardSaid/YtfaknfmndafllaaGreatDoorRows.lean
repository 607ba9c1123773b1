/-
  NARROWER THAN 'FOR EVERY INPUT', by the rows' own cells (each row's printed sentence says how): RestoreLeast: laid · RestoreAnswers: laid · RestoreUnlocks: laid · RestoreUndoes: laid · RestoreSafe: laid.
  DERIVED. THE GIVEN ROWS OF THIS SEAT. 5 by the template 'for every input the law returns true; each argument reads behind the call as it read before'; 0 by the template 'total and deterministic' (their statements: YtfaknfmndafllaaGreatDoorTotals.lean).
  GIVEN WITH THE SEED: the statements are not yours to turn. If you find one false, say at which input.
  Laid BY PROGRAM, IN A SANDBOX (cutbox-rows.mjs): the forced cells as the released guide's own fill.sh prints them over the translation 031ff0afec555bbb… (all of the seat's roots in one cut). By AI agents, Wed Nov 11 2026. No macro, syntax, notation, axiom, sorry.
-/
import Derived.Test.YtfaknfmndafllaaGreatDoorChecked
import GoSem.Claim
import GoSem.ClaimJoined
import GoSem.ClaimMapViews
import Derived.JoinedTies
import Derived.KernelRfl
namespace Go.Proofs.YtfaknfmndafllaaGreatDoor
/- THE CELL 'sum', in the pinned program and in every row, IS THE sha256 OF THE DUMP (.gsa) THAT YtfaknfmndafllaaGreatDoorProg.lean LOADS. Nothing in Lean hashes anything: it is a label: what it is worth is what the hold of that sum in a sandbox is worth. -/
noncomputable def Tryz.pinned : Pinned := { name := "ytfaknfmndafllaagreatdoor", sum := "031ff0afec555bbb29149a9119beb830788696771a9316e775cbd0e2b4d1bdd9", checked := Tryz.checked }
namespace Rows
def none {H : Type} : Left H := { results := [], args := [] }

/- WHAT THE LISTED PACKAGE-LEVEL VARIABLES READ AS WHEN THE CALL BEGINS. Each datum BY PROGRAM (the guide's laid-datum.mjs) off the statement by which the dump's own 'gosem.cut.vars' lays the variable. In a bare row this is a premise. The card (YtfaknfmndafllaaGreatDoorCards.lean) ties it to the program's text. -/
def laid_permitoffice_lexeme_classes {H : Type} : DataW H := .agg [.agg [.lit (.int .u8 65), .lit (.int .u8 90), .lit (.bool true)], .agg [.lit (.int .u8 97), .lit (.int .u8 122), .lit (.bool true)], .agg [.lit (.int .u8 48), .lit (.int .u8 57), .lit (.bool false)], .agg [.lit (.int .u8 95), .lit (.int .u8 95), .lit (.bool false)]]
def laid_permitoffice_mask_positions {H : Type} : DataW H := .agg [.agg [.lit (.bool false), .lit (.bool false)], .agg [.lit (.bool true), .lit (.bool true)], .agg [.lit (.bool true), .lit (.bool true)], .agg [.lit (.bool true), .lit (.bool false)]]

/-- 'permitofficelaw21.RestoreLeast': WHATEVER THE INPUT: true; the input reads as it did. -/
def restoreLeastSpec : ChangeSpec := { name := "restoreLeast", fn := fun _ => fun
  | [d] => { results := [.lit (.bool true)], args := [d] }
  | _ => none }
def restoreLeastRow : OpenClaim := { program := "ytfaknfmndafllaagreatdoor", sum := "031ff0afec555bbb29149a9119beb830788696771a9316e775cbd0e2b4d1bdd9", func := "permitoffice/permitofficelaw21.RestoreLeast", spec := "restoreLeast", unfollowed := true, recurses := true, named := ["permitoffice/lexeme.classes", "permitoffice/mask.positions"], apart := false, laid := [("permitoffice/lexeme.classes", laid_permitoffice_lexeme_classes), ("permitoffice/mask.positions", laid_permitoffice_mask_positions)] }
def RestoreLeastSaid : Prop := restoreLeastRow.holds Tryz.pinned (OpenSpec.ofChange restoreLeastSpec)

/-- ITS FALSE NEIGHBOUR: 'it returns false'. Refute it at one input. -/
def restoreLeastWrong : ChangeSpec := { name := "restoreLeast", fn := fun _ => fun
  | [d] => { results := [.lit (.bool false)], args := [d] }
  | _ => none }
def RestoreLeastWrongFalsely : Prop := restoreLeastRow.holds Tryz.pinned (OpenSpec.ofChange restoreLeastWrong)

/-- 'permitofficelaw21.RestoreAnswers': WHATEVER THE INPUT: true; the input reads as it did. -/
def restoreAnswersSpec : ChangeSpec := { name := "restoreAnswers", fn := fun _ => fun
  | [d1, d2, d3, d4, d5] => { results := [.lit (.bool true)], args := [d1, d2, d3, d4, d5] }
  | _ => none }
def restoreAnswersRow : OpenClaim := { program := "ytfaknfmndafllaagreatdoor", sum := "031ff0afec555bbb29149a9119beb830788696771a9316e775cbd0e2b4d1bdd9", func := "permitoffice/permitofficelaw21.RestoreAnswers", spec := "restoreAnswers", unfollowed := true, recurses := true, named := ["permitoffice/lexeme.classes", "permitoffice/mask.positions"], apart := false, laid := [("permitoffice/lexeme.classes", laid_permitoffice_lexeme_classes), ("permitoffice/mask.positions", laid_permitoffice_mask_positions)] }
def RestoreAnswersSaid : Prop := restoreAnswersRow.holds Tryz.pinned (OpenSpec.ofChange restoreAnswersSpec)

/-- ITS FALSE NEIGHBOUR: 'it returns false'. Refute it at one input. -/
def restoreAnswersWrong : ChangeSpec := { name := "restoreAnswers", fn := fun _ => fun
  | [d1, d2, d3, d4, d5] => { results := [.lit (.bool false)], args := [d1, d2, d3, d4, d5] }
  | _ => none }
def RestoreAnswersWrongFalsely : Prop := restoreAnswersRow.holds Tryz.pinned (OpenSpec.ofChange restoreAnswersWrong)

/-- 'permitofficelaw21.RestoreUnlocks': WHATEVER THE INPUT: true; the input reads as it did. -/
def restoreUnlocksSpec : ChangeSpec := { name := "restoreUnlocks", fn := fun _ => fun
  | [d] => { results := [.lit (.bool true)], args := [d] }
  | _ => none }
def restoreUnlocksRow : OpenClaim := { program := "ytfaknfmndafllaagreatdoor", sum := "031ff0afec555bbb29149a9119beb830788696771a9316e775cbd0e2b4d1bdd9", func := "permitoffice/permitofficelaw21.RestoreUnlocks", spec := "restoreUnlocks", unfollowed := true, recurses := true, named := ["permitoffice/lexeme.classes", "permitoffice/mask.positions"], apart := false, laid := [("permitoffice/lexeme.classes", laid_permitoffice_lexeme_classes), ("permitoffice/mask.positions", laid_permitoffice_mask_positions)] }
def RestoreUnlocksSaid : Prop := restoreUnlocksRow.holds Tryz.pinned (OpenSpec.ofChange restoreUnlocksSpec)

/-- ITS FALSE NEIGHBOUR: 'it returns false'. Refute it at one input. -/
def restoreUnlocksWrong : ChangeSpec := { name := "restoreUnlocks", fn := fun _ => fun
  | [d] => { results := [.lit (.bool false)], args := [d] }
  | _ => none }
def RestoreUnlocksWrongFalsely : Prop := restoreUnlocksRow.holds Tryz.pinned (OpenSpec.ofChange restoreUnlocksWrong)

/-- 'permitofficelaw21.RestoreUndoes': WHATEVER THE INPUT: true; the input reads as it did. -/
def restoreUndoesSpec : ChangeSpec := { name := "restoreUndoes", fn := fun _ => fun
  | [d] => { results := [.lit (.bool true)], args := [d] }
  | _ => none }
def restoreUndoesRow : OpenClaim := { program := "ytfaknfmndafllaagreatdoor", sum := "031ff0afec555bbb29149a9119beb830788696771a9316e775cbd0e2b4d1bdd9", func := "permitoffice/permitofficelaw21.RestoreUndoes", spec := "restoreUndoes", unfollowed := true, recurses := true, named := ["permitoffice/lexeme.classes", "permitoffice/mask.positions"], apart := false, laid := [("permitoffice/lexeme.classes", laid_permitoffice_lexeme_classes), ("permitoffice/mask.positions", laid_permitoffice_mask_positions)] }
def RestoreUndoesSaid : Prop := restoreUndoesRow.holds Tryz.pinned (OpenSpec.ofChange restoreUndoesSpec)

/-- ITS FALSE NEIGHBOUR: 'it returns false'. Refute it at one input. -/
def restoreUndoesWrong : ChangeSpec := { name := "restoreUndoes", fn := fun _ => fun
  | [d] => { results := [.lit (.bool false)], args := [d] }
  | _ => none }
def RestoreUndoesWrongFalsely : Prop := restoreUndoesRow.holds Tryz.pinned (OpenSpec.ofChange restoreUndoesWrong)

/-- 'permitofficelaw21.RestoreSafe': WHATEVER THE INPUT: true; the input reads as it did. -/
def restoreSafeSpec : ChangeSpec := { name := "restoreSafe", fn := fun _ => fun
  | [d] => { results := [.lit (.bool true)], args := [d] }
  | _ => none }
def restoreSafeRow : OpenClaim := { program := "ytfaknfmndafllaagreatdoor", sum := "031ff0afec555bbb29149a9119beb830788696771a9316e775cbd0e2b4d1bdd9", func := "permitoffice/permitofficelaw21.RestoreSafe", spec := "restoreSafe", inPlace := ["slices.overlaps[int]"], unfollowed := true, recurses := true, named := ["permitoffice/lexeme.classes", "permitoffice/mask.positions"], apart := false, laid := [("permitoffice/lexeme.classes", laid_permitoffice_lexeme_classes), ("permitoffice/mask.positions", laid_permitoffice_mask_positions)] }
def RestoreSafeSaid : Prop := restoreSafeRow.holds Tryz.pinned (OpenSpec.ofChange restoreSafeSpec)

/-- ITS FALSE NEIGHBOUR: 'it returns false'. Refute it at one input. -/
def restoreSafeWrong : ChangeSpec := { name := "restoreSafe", fn := fun _ => fun
  | [d] => { results := [.lit (.bool false)], args := [d] }
  | _ => none }
def RestoreSafeWrongFalsely : Prop := restoreSafeRow.holds Tryz.pinned (OpenSpec.ofChange restoreSafeWrong)

/- THE SECOND FORM. 'bulk': how many values and letters a reading holds, each counted each time it is reached (what is shared counts as often as it is met; a slice's spare places count too). A statement '..UptoSaid' is the law's where the arguments, and the package variables that the reading takes, are together of bulk at most 1048576: NARROWER than '..Said'. Prove '..Said' where nothing that the law and all that it calls make is longer than what came in: it says more and counts as full. Else prove '..UptoSaid'. A law counts once. -/
mutual
def uptoBulk {H : Type} : DataW H → Nat
  | .lit (.string bytes) => bytes.length + 1
  | .lit _ => 1
  | .nil => 1
  | .ptr d => uptoBulk d + 1
  | .slice elems spare => uptoBulkAll elems + uptoBulkAll spare + 1
  | .agg parts => uptoBulkAll parts + 1
  | .iface _ d => uptoBulk d + 1
  | .map entries => uptoBulkEntries entries + 1
  | .held _ => 1
def uptoBulkAll {H : Type} : List (DataW H) → Nat
  | [] => 0
  | d :: r => uptoBulk d + uptoBulkAll r
def uptoBulkEntries {H : Type} : List (Lit × DataW H) → Nat
  | [] => 0
  | x :: r => uptoBulkEntry x + uptoBulkEntries r
def uptoBulkEntry {H : Type} : Lit × DataW H → Nat
  | (.string bytes, d) => bytes.length + uptoBulk d + 1
  | (_, d) => uptoBulk d + 1
 end
def uptoSmall : (H : Type) → List (DataW H) → Bool := fun _ ds => decide (uptoBulkAll ds ≤ 1048576)
def OpenSpec.upto (s : _root_.Go.ChangeSpec) : _root_.Go.OpenSpec := { _root_.Go.OpenSpec.ofChange s with cond := some uptoSmall }

/-- 'permitofficelaw21.RestoreLeast', WHERE WHAT IT READS IS OF BULK AT MOST 1048576: true; the input reads as it did. -/
def restoreLeastUptoRow : OpenClaim := { program := "ytfaknfmndafllaagreatdoor", sum := "031ff0afec555bbb29149a9119beb830788696771a9316e775cbd0e2b4d1bdd9", func := "permitoffice/permitofficelaw21.RestoreLeast", spec := "restoreLeast", unfollowed := true, recurses := true, named := ["permitoffice/lexeme.classes", "permitoffice/mask.positions"], apart := false, laid := [("permitoffice/lexeme.classes", laid_permitoffice_lexeme_classes), ("permitoffice/mask.positions", laid_permitoffice_mask_positions)], narrowed := true }
def RestoreLeastUptoSaid : Prop := restoreLeastUptoRow.holds Tryz.pinned (OpenSpec.upto restoreLeastSpec)

/-- 'permitofficelaw21.RestoreAnswers', WHERE WHAT IT READS IS OF BULK AT MOST 1048576: true; the input reads as it did. -/
def restoreAnswersUptoRow : OpenClaim := { program := "ytfaknfmndafllaagreatdoor", sum := "031ff0afec555bbb29149a9119beb830788696771a9316e775cbd0e2b4d1bdd9", func := "permitoffice/permitofficelaw21.RestoreAnswers", spec := "restoreAnswers", unfollowed := true, recurses := true, named := ["permitoffice/lexeme.classes", "permitoffice/mask.positions"], apart := false, laid := [("permitoffice/lexeme.classes", laid_permitoffice_lexeme_classes), ("permitoffice/mask.positions", laid_permitoffice_mask_positions)], narrowed := true }
def RestoreAnswersUptoSaid : Prop := restoreAnswersUptoRow.holds Tryz.pinned (OpenSpec.upto restoreAnswersSpec)

/-- 'permitofficelaw21.RestoreUnlocks', WHERE WHAT IT READS IS OF BULK AT MOST 1048576: true; the input reads as it did. -/
def restoreUnlocksUptoRow : OpenClaim := { program := "ytfaknfmndafllaagreatdoor", sum := "031ff0afec555bbb29149a9119beb830788696771a9316e775cbd0e2b4d1bdd9", func := "permitoffice/permitofficelaw21.RestoreUnlocks", spec := "restoreUnlocks", unfollowed := true, recurses := true, named := ["permitoffice/lexeme.classes", "permitoffice/mask.positions"], apart := false, laid := [("permitoffice/lexeme.classes", laid_permitoffice_lexeme_classes), ("permitoffice/mask.positions", laid_permitoffice_mask_positions)], narrowed := true }
def RestoreUnlocksUptoSaid : Prop := restoreUnlocksUptoRow.holds Tryz.pinned (OpenSpec.upto restoreUnlocksSpec)

/-- 'permitofficelaw21.RestoreUndoes', WHERE WHAT IT READS IS OF BULK AT MOST 1048576: true; the input reads as it did. -/
def restoreUndoesUptoRow : OpenClaim := { program := "ytfaknfmndafllaagreatdoor", sum := "031ff0afec555bbb29149a9119beb830788696771a9316e775cbd0e2b4d1bdd9", func := "permitoffice/permitofficelaw21.RestoreUndoes", spec := "restoreUndoes", unfollowed := true, recurses := true, named := ["permitoffice/lexeme.classes", "permitoffice/mask.positions"], apart := false, laid := [("permitoffice/lexeme.classes", laid_permitoffice_lexeme_classes), ("permitoffice/mask.positions", laid_permitoffice_mask_positions)], narrowed := true }
def RestoreUndoesUptoSaid : Prop := restoreUndoesUptoRow.holds Tryz.pinned (OpenSpec.upto restoreUndoesSpec)

/-- 'permitofficelaw21.RestoreSafe', WHERE WHAT IT READS IS OF BULK AT MOST 1048576: true; the input reads as it did. -/
def restoreSafeUptoRow : OpenClaim := { program := "ytfaknfmndafllaagreatdoor", sum := "031ff0afec555bbb29149a9119beb830788696771a9316e775cbd0e2b4d1bdd9", func := "permitoffice/permitofficelaw21.RestoreSafe", spec := "restoreSafe", inPlace := ["slices.overlaps[int]"], unfollowed := true, recurses := true, named := ["permitoffice/lexeme.classes", "permitoffice/mask.positions"], apart := false, laid := [("permitoffice/lexeme.classes", laid_permitoffice_lexeme_classes), ("permitoffice/mask.positions", laid_permitoffice_mask_positions)], narrowed := true }
def RestoreSafeUptoSaid : Prop := restoreSafeUptoRow.holds Tryz.pinned (OpenSpec.upto restoreSafeSpec)

end Rows
end Go.Proofs.YtfaknfmndafllaaGreatDoor
