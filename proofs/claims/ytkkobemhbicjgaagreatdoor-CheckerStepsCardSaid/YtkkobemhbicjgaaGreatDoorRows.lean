/-
  NARROWER THAN 'FOR EVERY INPUT', by the rows' own cells (each row's printed sentence says how): CheckerFiner: laid · CheckerLocks: laid · CheckerProves: laid · CheckerAnswers: laid · CheckerSteps: laid · CheckerFinds: laid · CheckerExact: laid.
  DERIVED. THE GIVEN ROWS OF THIS SEAT. 7 by the template 'for every input the law returns true; each argument reads behind the call as it read before'; 0 by the template 'total and deterministic' (their statements: YtkkobemhbicjgaaGreatDoorTotals.lean).
  GIVEN WITH THE SEED: the statements are not yours to turn. If you find one false, say at which input.
  Laid BY PROGRAM, IN A SANDBOX (cutbox-rows.mjs): the forced cells as the released guide's own fill.sh prints them over the translation 951127a9ddfc9dda… (all of the seat's roots in one cut). By AI agents, Wed Nov 11 2026. No macro, syntax, notation, axiom, sorry.
-/
import Derived.Test.YtkkobemhbicjgaaGreatDoorChecked
import GoSem.Claim
import GoSem.ClaimJoined
import GoSem.ClaimMapViews
import Derived.JoinedTies
import Derived.KernelRfl
namespace Go.Proofs.YtkkobemhbicjgaaGreatDoor
/- THE CELL 'sum', in the pinned program and in every row, IS THE sha256 OF THE DUMP (.gsa) THAT YtkkobemhbicjgaaGreatDoorProg.lean LOADS. Nothing in Lean hashes anything: it is a label: what it is worth is what the hold of that sum in a sandbox is worth. -/
noncomputable def Tryz.pinned : Pinned := { name := "ytkkobemhbicjgaagreatdoor", sum := "951127a9ddfc9ddab63e42cb64fe944b15b9bc65ef2c50feab60f0f99c7dfae3", checked := Tryz.checked }
namespace Rows
def none {H : Type} : Left H := { results := [], args := [] }

/- WHAT THE LISTED PACKAGE-LEVEL VARIABLES READ AS WHEN THE CALL BEGINS. Each datum BY PROGRAM (the guide's laid-datum.mjs) off the statement by which the dump's own 'gosem.cut.vars' lays the variable. In a bare row this is a premise. The card (YtkkobemhbicjgaaGreatDoorCards.lean) ties it to the program's text. -/
def laid_permitoffice_lexeme_classes {H : Type} : DataW H := .agg [.agg [.lit (.int .u8 65), .lit (.int .u8 90), .lit (.bool true)], .agg [.lit (.int .u8 97), .lit (.int .u8 122), .lit (.bool true)], .agg [.lit (.int .u8 48), .lit (.int .u8 57), .lit (.bool false)], .agg [.lit (.int .u8 95), .lit (.int .u8 95), .lit (.bool false)]]
def laid_permitoffice_mask_positions {H : Type} : DataW H := .agg [.agg [.lit (.bool false), .lit (.bool false)], .agg [.lit (.bool true), .lit (.bool true)], .agg [.lit (.bool true), .lit (.bool true)], .agg [.lit (.bool true), .lit (.bool false)]]

/-- 'permitofficelaw18.CheckerFiner': WHATEVER THE INPUT: true; the input reads as it did. -/
def checkerFinerSpec : ChangeSpec := { name := "checkerFiner", fn := fun _ => fun
  | [d] => { results := [.lit (.bool true)], args := [d] }
  | _ => none }
def checkerFinerRow : OpenClaim := { program := "ytkkobemhbicjgaagreatdoor", sum := "951127a9ddfc9ddab63e42cb64fe944b15b9bc65ef2c50feab60f0f99c7dfae3", func := "permitoffice/permitofficelaw18.CheckerFiner", spec := "checkerFiner", inPlace := ["slices.overlaps[int]"], unfollowed := true, recurses := true, named := ["permitoffice/lexeme.classes", "permitoffice/mask.positions"], apart := false, laid := [("permitoffice/lexeme.classes", laid_permitoffice_lexeme_classes), ("permitoffice/mask.positions", laid_permitoffice_mask_positions)] }
def CheckerFinerSaid : Prop := checkerFinerRow.holds Tryz.pinned (OpenSpec.ofChange checkerFinerSpec)

/-- ITS FALSE NEIGHBOUR: 'it returns false'. Refute it at one input. -/
def checkerFinerWrong : ChangeSpec := { name := "checkerFiner", fn := fun _ => fun
  | [d] => { results := [.lit (.bool false)], args := [d] }
  | _ => none }
def CheckerFinerWrongFalsely : Prop := checkerFinerRow.holds Tryz.pinned (OpenSpec.ofChange checkerFinerWrong)

/-- 'permitofficelaw18.CheckerLocks': WHATEVER THE INPUT: true; the input reads as it did. -/
def checkerLocksSpec : ChangeSpec := { name := "checkerLocks", fn := fun _ => fun
  | [d] => { results := [.lit (.bool true)], args := [d] }
  | _ => none }
def checkerLocksRow : OpenClaim := { program := "ytkkobemhbicjgaagreatdoor", sum := "951127a9ddfc9ddab63e42cb64fe944b15b9bc65ef2c50feab60f0f99c7dfae3", func := "permitoffice/permitofficelaw18.CheckerLocks", spec := "checkerLocks", inPlace := ["slices.overlaps[int]"], unfollowed := true, recurses := true, named := ["permitoffice/lexeme.classes", "permitoffice/mask.positions"], apart := false, laid := [("permitoffice/lexeme.classes", laid_permitoffice_lexeme_classes), ("permitoffice/mask.positions", laid_permitoffice_mask_positions)] }
def CheckerLocksSaid : Prop := checkerLocksRow.holds Tryz.pinned (OpenSpec.ofChange checkerLocksSpec)

/-- ITS FALSE NEIGHBOUR: 'it returns false'. Refute it at one input. -/
def checkerLocksWrong : ChangeSpec := { name := "checkerLocks", fn := fun _ => fun
  | [d] => { results := [.lit (.bool false)], args := [d] }
  | _ => none }
def CheckerLocksWrongFalsely : Prop := checkerLocksRow.holds Tryz.pinned (OpenSpec.ofChange checkerLocksWrong)

/-- 'permitofficelaw18.CheckerProves': WHATEVER THE INPUT: true; the input reads as it did. -/
def checkerProvesSpec : ChangeSpec := { name := "checkerProves", fn := fun _ => fun
  | [d] => { results := [.lit (.bool true)], args := [d] }
  | _ => none }
def checkerProvesRow : OpenClaim := { program := "ytkkobemhbicjgaagreatdoor", sum := "951127a9ddfc9ddab63e42cb64fe944b15b9bc65ef2c50feab60f0f99c7dfae3", func := "permitoffice/permitofficelaw18.CheckerProves", spec := "checkerProves", inPlace := ["slices.overlaps[int]"], unfollowed := true, recurses := true, named := ["permitoffice/lexeme.classes", "permitoffice/mask.positions"], apart := false, laid := [("permitoffice/lexeme.classes", laid_permitoffice_lexeme_classes), ("permitoffice/mask.positions", laid_permitoffice_mask_positions)] }
def CheckerProvesSaid : Prop := checkerProvesRow.holds Tryz.pinned (OpenSpec.ofChange checkerProvesSpec)

/-- ITS FALSE NEIGHBOUR: 'it returns false'. Refute it at one input. -/
def checkerProvesWrong : ChangeSpec := { name := "checkerProves", fn := fun _ => fun
  | [d] => { results := [.lit (.bool false)], args := [d] }
  | _ => none }
def CheckerProvesWrongFalsely : Prop := checkerProvesRow.holds Tryz.pinned (OpenSpec.ofChange checkerProvesWrong)

/-- 'permitofficelaw18.CheckerAnswers': WHATEVER THE INPUT: true; the input reads as it did. -/
def checkerAnswersSpec : ChangeSpec := { name := "checkerAnswers", fn := fun _ => fun
  | [d1, d2, d3, d4, d5, d6, d7, d8] => { results := [.lit (.bool true)], args := [d1, d2, d3, d4, d5, d6, d7, d8] }
  | _ => none }
def checkerAnswersRow : OpenClaim := { program := "ytkkobemhbicjgaagreatdoor", sum := "951127a9ddfc9ddab63e42cb64fe944b15b9bc65ef2c50feab60f0f99c7dfae3", func := "permitoffice/permitofficelaw18.CheckerAnswers", spec := "checkerAnswers", inPlace := ["slices.overlaps[int]"], unfollowed := true, recurses := true, named := ["permitoffice/lexeme.classes", "permitoffice/mask.positions"], apart := false, laid := [("permitoffice/lexeme.classes", laid_permitoffice_lexeme_classes), ("permitoffice/mask.positions", laid_permitoffice_mask_positions)] }
def CheckerAnswersSaid : Prop := checkerAnswersRow.holds Tryz.pinned (OpenSpec.ofChange checkerAnswersSpec)

/-- ITS FALSE NEIGHBOUR: 'it returns false'. Refute it at one input. -/
def checkerAnswersWrong : ChangeSpec := { name := "checkerAnswers", fn := fun _ => fun
  | [d1, d2, d3, d4, d5, d6, d7, d8] => { results := [.lit (.bool false)], args := [d1, d2, d3, d4, d5, d6, d7, d8] }
  | _ => none }
def CheckerAnswersWrongFalsely : Prop := checkerAnswersRow.holds Tryz.pinned (OpenSpec.ofChange checkerAnswersWrong)

/-- 'permitofficelaw18.CheckerSteps': WHATEVER THE INPUT: true; the input reads as it did. -/
def checkerStepsSpec : ChangeSpec := { name := "checkerSteps", fn := fun _ => fun
  | [d] => { results := [.lit (.bool true)], args := [d] }
  | _ => none }
def checkerStepsRow : OpenClaim := { program := "ytkkobemhbicjgaagreatdoor", sum := "951127a9ddfc9ddab63e42cb64fe944b15b9bc65ef2c50feab60f0f99c7dfae3", func := "permitoffice/permitofficelaw18.CheckerSteps", spec := "checkerSteps", inPlace := ["slices.overlaps[int]"], unfollowed := true, recurses := true, named := ["permitoffice/lexeme.classes", "permitoffice/mask.positions"], apart := false, laid := [("permitoffice/lexeme.classes", laid_permitoffice_lexeme_classes), ("permitoffice/mask.positions", laid_permitoffice_mask_positions)] }
def CheckerStepsSaid : Prop := checkerStepsRow.holds Tryz.pinned (OpenSpec.ofChange checkerStepsSpec)

/-- ITS FALSE NEIGHBOUR: 'it returns false'. Refute it at one input. -/
def checkerStepsWrong : ChangeSpec := { name := "checkerSteps", fn := fun _ => fun
  | [d] => { results := [.lit (.bool false)], args := [d] }
  | _ => none }
def CheckerStepsWrongFalsely : Prop := checkerStepsRow.holds Tryz.pinned (OpenSpec.ofChange checkerStepsWrong)

/-- 'permitofficelaw18.CheckerFinds': WHATEVER THE INPUT: true; the input reads as it did. -/
def checkerFindsSpec : ChangeSpec := { name := "checkerFinds", fn := fun _ => fun
  | [d] => { results := [.lit (.bool true)], args := [d] }
  | _ => none }
def checkerFindsRow : OpenClaim := { program := "ytkkobemhbicjgaagreatdoor", sum := "951127a9ddfc9ddab63e42cb64fe944b15b9bc65ef2c50feab60f0f99c7dfae3", func := "permitoffice/permitofficelaw18.CheckerFinds", spec := "checkerFinds", inPlace := ["slices.overlaps[int]"], unfollowed := true, recurses := true, named := ["permitoffice/lexeme.classes", "permitoffice/mask.positions"], apart := false, laid := [("permitoffice/lexeme.classes", laid_permitoffice_lexeme_classes), ("permitoffice/mask.positions", laid_permitoffice_mask_positions)] }
def CheckerFindsSaid : Prop := checkerFindsRow.holds Tryz.pinned (OpenSpec.ofChange checkerFindsSpec)

/-- ITS FALSE NEIGHBOUR: 'it returns false'. Refute it at one input. -/
def checkerFindsWrong : ChangeSpec := { name := "checkerFinds", fn := fun _ => fun
  | [d] => { results := [.lit (.bool false)], args := [d] }
  | _ => none }
def CheckerFindsWrongFalsely : Prop := checkerFindsRow.holds Tryz.pinned (OpenSpec.ofChange checkerFindsWrong)

/-- 'permitofficelaw18.CheckerExact': WHATEVER THE INPUT: true; the input reads as it did. -/
def checkerExactSpec : ChangeSpec := { name := "checkerExact", fn := fun _ => fun
  | [d] => { results := [.lit (.bool true)], args := [d] }
  | _ => none }
def checkerExactRow : OpenClaim := { program := "ytkkobemhbicjgaagreatdoor", sum := "951127a9ddfc9ddab63e42cb64fe944b15b9bc65ef2c50feab60f0f99c7dfae3", func := "permitoffice/permitofficelaw18.CheckerExact", spec := "checkerExact", inPlace := ["slices.overlaps[int]"], unfollowed := true, recurses := true, named := ["permitoffice/lexeme.classes", "permitoffice/mask.positions"], apart := false, laid := [("permitoffice/lexeme.classes", laid_permitoffice_lexeme_classes), ("permitoffice/mask.positions", laid_permitoffice_mask_positions)] }
def CheckerExactSaid : Prop := checkerExactRow.holds Tryz.pinned (OpenSpec.ofChange checkerExactSpec)

/-- ITS FALSE NEIGHBOUR: 'it returns false'. Refute it at one input. -/
def checkerExactWrong : ChangeSpec := { name := "checkerExact", fn := fun _ => fun
  | [d] => { results := [.lit (.bool false)], args := [d] }
  | _ => none }
def CheckerExactWrongFalsely : Prop := checkerExactRow.holds Tryz.pinned (OpenSpec.ofChange checkerExactWrong)

/- THE SECOND FORM. 'bulk': how many values and letters a reading holds, each counted each time it is reached (what is shared counts as often as it is met; a slice's spare places count too). A statement '..UptoSaid' is the law's where the arguments, and the package variables that the reading takes, are together of bulk at most 1048576: NARROWER than '..Said'. Prove '..Said' where nothing that the law and all that it calls make is longer than what came in: it says more and counts as full. Else prove '..UptoSaid'. A law counts once. -/
mutual
def uptoBulk {H : Type} : DataW H → Nat
  | .lit (.string bytes) => bytes.length + 1
  | .lit _ => 1
  | .nil => 1
  | .ptr d => uptoBulk d + 1
  | .slice elems spare => uptoBulkAll elems + uptoBulkAll spare + 1
  | .agg parts => uptoBulkAll parts + 1
  | .iface _ d => uptoBulk d + 1
  | .map entries => uptoBulkEntries entries + 1
  | .held _ => 1
def uptoBulkAll {H : Type} : List (DataW H) → Nat
  | [] => 0
  | d :: r => uptoBulk d + uptoBulkAll r
def uptoBulkEntries {H : Type} : List (Lit × DataW H) → Nat
  | [] => 0
  | x :: r => uptoBulkEntry x + uptoBulkEntries r
def uptoBulkEntry {H : Type} : Lit × DataW H → Nat
  | (.string bytes, d) => bytes.length + uptoBulk d + 1
  | (_, d) => uptoBulk d + 1
 end
def uptoSmall : (H : Type) → List (DataW H) → Bool := fun _ ds => decide (uptoBulkAll ds ≤ 1048576)
def OpenSpec.upto (s : _root_.Go.ChangeSpec) : _root_.Go.OpenSpec := { _root_.Go.OpenSpec.ofChange s with cond := some uptoSmall }

/-- 'permitofficelaw18.CheckerFiner', WHERE WHAT IT READS IS OF BULK AT MOST 1048576: true; the input reads as it did. -/
def checkerFinerUptoRow : OpenClaim := { program := "ytkkobemhbicjgaagreatdoor", sum := "951127a9ddfc9ddab63e42cb64fe944b15b9bc65ef2c50feab60f0f99c7dfae3", func := "permitoffice/permitofficelaw18.CheckerFiner", spec := "checkerFiner", inPlace := ["slices.overlaps[int]"], unfollowed := true, recurses := true, named := ["permitoffice/lexeme.classes", "permitoffice/mask.positions"], apart := false, laid := [("permitoffice/lexeme.classes", laid_permitoffice_lexeme_classes), ("permitoffice/mask.positions", laid_permitoffice_mask_positions)], narrowed := true }
def CheckerFinerUptoSaid : Prop := checkerFinerUptoRow.holds Tryz.pinned (OpenSpec.upto checkerFinerSpec)

/-- 'permitofficelaw18.CheckerLocks', WHERE WHAT IT READS IS OF BULK AT MOST 1048576: true; the input reads as it did. -/
def checkerLocksUptoRow : OpenClaim := { program := "ytkkobemhbicjgaagreatdoor", sum := "951127a9ddfc9ddab63e42cb64fe944b15b9bc65ef2c50feab60f0f99c7dfae3", func := "permitoffice/permitofficelaw18.CheckerLocks", spec := "checkerLocks", inPlace := ["slices.overlaps[int]"], unfollowed := true, recurses := true, named := ["permitoffice/lexeme.classes", "permitoffice/mask.positions"], apart := false, laid := [("permitoffice/lexeme.classes", laid_permitoffice_lexeme_classes), ("permitoffice/mask.positions", laid_permitoffice_mask_positions)], narrowed := true }
def CheckerLocksUptoSaid : Prop := checkerLocksUptoRow.holds Tryz.pinned (OpenSpec.upto checkerLocksSpec)

/-- 'permitofficelaw18.CheckerProves', WHERE WHAT IT READS IS OF BULK AT MOST 1048576: true; the input reads as it did. -/
def checkerProvesUptoRow : OpenClaim := { program := "ytkkobemhbicjgaagreatdoor", sum := "951127a9ddfc9ddab63e42cb64fe944b15b9bc65ef2c50feab60f0f99c7dfae3", func := "permitoffice/permitofficelaw18.CheckerProves", spec := "checkerProves", inPlace := ["slices.overlaps[int]"], unfollowed := true, recurses := true, named := ["permitoffice/lexeme.classes", "permitoffice/mask.positions"], apart := false, laid := [("permitoffice/lexeme.classes", laid_permitoffice_lexeme_classes), ("permitoffice/mask.positions", laid_permitoffice_mask_positions)], narrowed := true }
def CheckerProvesUptoSaid : Prop := checkerProvesUptoRow.holds Tryz.pinned (OpenSpec.upto checkerProvesSpec)

/-- 'permitofficelaw18.CheckerAnswers', WHERE WHAT IT READS IS OF BULK AT MOST 1048576: true; the input reads as it did. -/
def checkerAnswersUptoRow : OpenClaim := { program := "ytkkobemhbicjgaagreatdoor", sum := "951127a9ddfc9ddab63e42cb64fe944b15b9bc65ef2c50feab60f0f99c7dfae3", func := "permitoffice/permitofficelaw18.CheckerAnswers", spec := "checkerAnswers", inPlace := ["slices.overlaps[int]"], unfollowed := true, recurses := true, named := ["permitoffice/lexeme.classes", "permitoffice/mask.positions"], apart := false, laid := [("permitoffice/lexeme.classes", laid_permitoffice_lexeme_classes), ("permitoffice/mask.positions", laid_permitoffice_mask_positions)], narrowed := true }
def CheckerAnswersUptoSaid : Prop := checkerAnswersUptoRow.holds Tryz.pinned (OpenSpec.upto checkerAnswersSpec)

/-- 'permitofficelaw18.CheckerSteps', WHERE WHAT IT READS IS OF BULK AT MOST 1048576: true; the input reads as it did. -/
def checkerStepsUptoRow : OpenClaim := { program := "ytkkobemhbicjgaagreatdoor", sum := "951127a9ddfc9ddab63e42cb64fe944b15b9bc65ef2c50feab60f0f99c7dfae3", func := "permitoffice/permitofficelaw18.CheckerSteps", spec := "checkerSteps", inPlace := ["slices.overlaps[int]"], unfollowed := true, recurses := true, named := ["permitoffice/lexeme.classes", "permitoffice/mask.positions"], apart := false, laid := [("permitoffice/lexeme.classes", laid_permitoffice_lexeme_classes), ("permitoffice/mask.positions", laid_permitoffice_mask_positions)], narrowed := true }
def CheckerStepsUptoSaid : Prop := checkerStepsUptoRow.holds Tryz.pinned (OpenSpec.upto checkerStepsSpec)

/-- 'permitofficelaw18.CheckerFinds', WHERE WHAT IT READS IS OF BULK AT MOST 1048576: true; the input reads as it did. -/
def checkerFindsUptoRow : OpenClaim := { program := "ytkkobemhbicjgaagreatdoor", sum := "951127a9ddfc9ddab63e42cb64fe944b15b9bc65ef2c50feab60f0f99c7dfae3", func := "permitoffice/permitofficelaw18.CheckerFinds", spec := "checkerFinds", inPlace := ["slices.overlaps[int]"], unfollowed := true, recurses := true, named := ["permitoffice/lexeme.classes", "permitoffice/mask.positions"], apart := false, laid := [("permitoffice/lexeme.classes", laid_permitoffice_lexeme_classes), ("permitoffice/mask.positions", laid_permitoffice_mask_positions)], narrowed := true }
def CheckerFindsUptoSaid : Prop := checkerFindsUptoRow.holds Tryz.pinned (OpenSpec.upto checkerFindsSpec)

/-- 'permitofficelaw18.CheckerExact', WHERE WHAT IT READS IS OF BULK AT MOST 1048576: true; the input reads as it did. -/
def checkerExactUptoRow : OpenClaim := { program := "ytkkobemhbicjgaagreatdoor", sum := "951127a9ddfc9ddab63e42cb64fe944b15b9bc65ef2c50feab60f0f99c7dfae3", func := "permitoffice/permitofficelaw18.CheckerExact", spec := "checkerExact", inPlace := ["slices.overlaps[int]"], unfollowed := true, recurses := true, named := ["permitoffice/lexeme.classes", "permitoffice/mask.positions"], apart := false, laid := [("permitoffice/lexeme.classes", laid_permitoffice_lexeme_classes), ("permitoffice/mask.positions", laid_permitoffice_mask_positions)], narrowed := true }
def CheckerExactUptoSaid : Prop := checkerExactUptoRow.holds Tryz.pinned (OpenSpec.upto checkerExactSpec)

end Rows
end Go.Proofs.YtkkobemhbicjgaaGreatDoor
