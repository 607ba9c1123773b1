/-
  NARROWER THAN 'FOR EVERY INPUT', by the rows' own cells (each row's printed sentence says how): HazardFaults: laid · HazardHarmless: laid · HazardGround: laid · HazardExact: laid · HazardAnswers: laid.
  DERIVED. THE GIVEN ROWS OF THIS SEAT. 5 by the template 'for every input the law returns true; each argument reads behind the call as it read before'; 0 by the template 'total and deterministic' (their statements: YtdpmfdcackoegaaGreatDoorTotals.lean).
  GIVEN WITH THE SEED: the statements are not yours to turn. If you find one false, say at which input.
  Laid BY PROGRAM, IN A SANDBOX (cutbox-rows.mjs): the forced cells as the released guide's own fill.sh prints them over the translation ed129211b2169381… (all of the seat's roots in one cut). By AI agents, Wed Nov 11 2026. No macro, syntax, notation, axiom, sorry.
-/
import Derived.Test.YtdpmfdcackoegaaGreatDoorChecked
import GoSem.Claim
import GoSem.ClaimJoined
import GoSem.ClaimMapViews
import Derived.JoinedTies
import Derived.KernelRfl
namespace Go.Proofs.YtdpmfdcackoegaaGreatDoor
/- THE CELL 'sum', in the pinned program and in every row, IS THE sha256 OF THE DUMP (.gsa) THAT YtdpmfdcackoegaaGreatDoorProg.lean LOADS. Nothing in Lean hashes anything: it is a label: what it is worth is what the hold of that sum in a sandbox is worth. -/
noncomputable def Tryz.pinned : Pinned := { name := "ytdpmfdcackoegaagreatdoor", sum := "ed129211b21693819504c33329848329b0b58d4404e10596cac8e0139c159981", checked := Tryz.checked }
namespace Rows
def none {H : Type} : Left H := { results := [], args := [] }

/- WHAT THE LISTED PACKAGE-LEVEL VARIABLES READ AS WHEN THE CALL BEGINS. Each datum BY PROGRAM (the guide's laid-datum.mjs) off the statement by which the dump's own 'gosem.cut.vars' lays the variable. In a bare row this is a premise. The card (YtdpmfdcackoegaaGreatDoorCards.lean) ties it to the program's text. -/
def laid_permitoffice_lexeme_classes {H : Type} : DataW H := .agg [.agg [.lit (.int .u8 65), .lit (.int .u8 90), .lit (.bool true)], .agg [.lit (.int .u8 97), .lit (.int .u8 122), .lit (.bool true)], .agg [.lit (.int .u8 48), .lit (.int .u8 57), .lit (.bool false)], .agg [.lit (.int .u8 95), .lit (.int .u8 95), .lit (.bool false)]]
def laid_permitoffice_mask_positions {H : Type} : DataW H := .agg [.agg [.lit (.bool false), .lit (.bool false)], .agg [.lit (.bool true), .lit (.bool true)], .agg [.lit (.bool true), .lit (.bool true)], .agg [.lit (.bool true), .lit (.bool false)]]

/-- 'permitofficelaw13.HazardFaults': WHATEVER THE INPUT: true; the input reads as it did. -/
def hazardFaultsSpec : ChangeSpec := { name := "hazardFaults", fn := fun _ => fun
  | [d] => { results := [.lit (.bool true)], args := [d] }
  | _ => none }
def hazardFaultsRow : OpenClaim := { program := "ytdpmfdcackoegaagreatdoor", sum := "ed129211b21693819504c33329848329b0b58d4404e10596cac8e0139c159981", func := "permitoffice/permitofficelaw13.HazardFaults", spec := "hazardFaults", unfollowed := true, recurses := true, named := ["permitoffice/lexeme.classes", "permitoffice/mask.positions"], apart := false, laid := [("permitoffice/lexeme.classes", laid_permitoffice_lexeme_classes), ("permitoffice/mask.positions", laid_permitoffice_mask_positions)] }
def HazardFaultsSaid : Prop := hazardFaultsRow.holds Tryz.pinned (OpenSpec.ofChange hazardFaultsSpec)

/-- ITS FALSE NEIGHBOUR: 'it returns false'. Refute it at one input. -/
def hazardFaultsWrong : ChangeSpec := { name := "hazardFaults", fn := fun _ => fun
  | [d] => { results := [.lit (.bool false)], args := [d] }
  | _ => none }
def HazardFaultsWrongFalsely : Prop := hazardFaultsRow.holds Tryz.pinned (OpenSpec.ofChange hazardFaultsWrong)

/-- 'permitofficelaw13.HazardHarmless': WHATEVER THE INPUT: true; the input reads as it did. -/
def hazardHarmlessSpec : ChangeSpec := { name := "hazardHarmless", fn := fun _ => fun
  | [d] => { results := [.lit (.bool true)], args := [d] }
  | _ => none }
def hazardHarmlessRow : OpenClaim := { program := "ytdpmfdcackoegaagreatdoor", sum := "ed129211b21693819504c33329848329b0b58d4404e10596cac8e0139c159981", func := "permitoffice/permitofficelaw13.HazardHarmless", spec := "hazardHarmless", unfollowed := true, recurses := true, named := ["permitoffice/lexeme.classes", "permitoffice/mask.positions"], apart := false, laid := [("permitoffice/lexeme.classes", laid_permitoffice_lexeme_classes), ("permitoffice/mask.positions", laid_permitoffice_mask_positions)] }
def HazardHarmlessSaid : Prop := hazardHarmlessRow.holds Tryz.pinned (OpenSpec.ofChange hazardHarmlessSpec)

/-- ITS FALSE NEIGHBOUR: 'it returns false'. Refute it at one input. -/
def hazardHarmlessWrong : ChangeSpec := { name := "hazardHarmless", fn := fun _ => fun
  | [d] => { results := [.lit (.bool false)], args := [d] }
  | _ => none }
def HazardHarmlessWrongFalsely : Prop := hazardHarmlessRow.holds Tryz.pinned (OpenSpec.ofChange hazardHarmlessWrong)

/-- 'permitofficelaw13.HazardGround': WHATEVER THE INPUT: true; the input reads as it did. -/
def hazardGroundSpec : ChangeSpec := { name := "hazardGround", fn := fun _ => fun
  | [d] => { results := [.lit (.bool true)], args := [d] }
  | _ => none }
def hazardGroundRow : OpenClaim := { program := "ytdpmfdcackoegaagreatdoor", sum := "ed129211b21693819504c33329848329b0b58d4404e10596cac8e0139c159981", func := "permitoffice/permitofficelaw13.HazardGround", spec := "hazardGround", unfollowed := true, recurses := true, named := ["permitoffice/lexeme.classes", "permitoffice/mask.positions"], apart := false, laid := [("permitoffice/lexeme.classes", laid_permitoffice_lexeme_classes), ("permitoffice/mask.positions", laid_permitoffice_mask_positions)] }
def HazardGroundSaid : Prop := hazardGroundRow.holds Tryz.pinned (OpenSpec.ofChange hazardGroundSpec)

/-- ITS FALSE NEIGHBOUR: 'it returns false'. Refute it at one input. -/
def hazardGroundWrong : ChangeSpec := { name := "hazardGround", fn := fun _ => fun
  | [d] => { results := [.lit (.bool false)], args := [d] }
  | _ => none }
def HazardGroundWrongFalsely : Prop := hazardGroundRow.holds Tryz.pinned (OpenSpec.ofChange hazardGroundWrong)

/-- 'permitofficelaw13.HazardExact': WHATEVER THE INPUT: true; the input reads as it did. -/
def hazardExactSpec : ChangeSpec := { name := "hazardExact", fn := fun _ => fun
  | [d] => { results := [.lit (.bool true)], args := [d] }
  | _ => none }
def hazardExactRow : OpenClaim := { program := "ytdpmfdcackoegaagreatdoor", sum := "ed129211b21693819504c33329848329b0b58d4404e10596cac8e0139c159981", func := "permitoffice/permitofficelaw13.HazardExact", spec := "hazardExact", unfollowed := true, recurses := true, named := ["permitoffice/lexeme.classes", "permitoffice/mask.positions"], apart := false, laid := [("permitoffice/lexeme.classes", laid_permitoffice_lexeme_classes), ("permitoffice/mask.positions", laid_permitoffice_mask_positions)] }
def HazardExactSaid : Prop := hazardExactRow.holds Tryz.pinned (OpenSpec.ofChange hazardExactSpec)

/-- ITS FALSE NEIGHBOUR: 'it returns false'. Refute it at one input. -/
def hazardExactWrong : ChangeSpec := { name := "hazardExact", fn := fun _ => fun
  | [d] => { results := [.lit (.bool false)], args := [d] }
  | _ => none }
def HazardExactWrongFalsely : Prop := hazardExactRow.holds Tryz.pinned (OpenSpec.ofChange hazardExactWrong)

/-- 'permitofficelaw13.HazardAnswers': WHATEVER THE INPUT: true; the input reads as it did. -/
def hazardAnswersSpec : ChangeSpec := { name := "hazardAnswers", fn := fun _ => fun
  | [d1, d2, d3, d4, d5, d6, d7] => { results := [.lit (.bool true)], args := [d1, d2, d3, d4, d5, d6, d7] }
  | _ => none }
def hazardAnswersRow : OpenClaim := { program := "ytdpmfdcackoegaagreatdoor", sum := "ed129211b21693819504c33329848329b0b58d4404e10596cac8e0139c159981", func := "permitoffice/permitofficelaw13.HazardAnswers", spec := "hazardAnswers", unfollowed := true, recurses := true, named := ["permitoffice/lexeme.classes", "permitoffice/mask.positions"], apart := false, laid := [("permitoffice/lexeme.classes", laid_permitoffice_lexeme_classes), ("permitoffice/mask.positions", laid_permitoffice_mask_positions)] }
def HazardAnswersSaid : Prop := hazardAnswersRow.holds Tryz.pinned (OpenSpec.ofChange hazardAnswersSpec)

/-- ITS FALSE NEIGHBOUR: 'it returns false'. Refute it at one input. -/
def hazardAnswersWrong : ChangeSpec := { name := "hazardAnswers", fn := fun _ => fun
  | [d1, d2, d3, d4, d5, d6, d7] => { results := [.lit (.bool false)], args := [d1, d2, d3, d4, d5, d6, d7] }
  | _ => none }
def HazardAnswersWrongFalsely : Prop := hazardAnswersRow.holds Tryz.pinned (OpenSpec.ofChange hazardAnswersWrong)

/- THE SECOND FORM. 'bulk': how many values and letters a reading holds, each counted each time it is reached (what is shared counts as often as it is met; a slice's spare places count too). A statement '..UptoSaid' is the law's where the arguments, and the package variables that the reading takes, are together of bulk at most 1048576: NARROWER than '..Said'. Prove '..Said' where nothing that the law and all that it calls make is longer than what came in: it says more and counts as full. Else prove '..UptoSaid'. A law counts once. -/
mutual
def uptoBulk {H : Type} : DataW H → Nat
  | .lit (.string bytes) => bytes.length + 1
  | .lit _ => 1
  | .nil => 1
  | .ptr d => uptoBulk d + 1
  | .slice elems spare => uptoBulkAll elems + uptoBulkAll spare + 1
  | .agg parts => uptoBulkAll parts + 1
  | .iface _ d => uptoBulk d + 1
  | .map entries => uptoBulkEntries entries + 1
  | .held _ => 1
def uptoBulkAll {H : Type} : List (DataW H) → Nat
  | [] => 0
  | d :: r => uptoBulk d + uptoBulkAll r
def uptoBulkEntries {H : Type} : List (Lit × DataW H) → Nat
  | [] => 0
  | x :: r => uptoBulkEntry x + uptoBulkEntries r
def uptoBulkEntry {H : Type} : Lit × DataW H → Nat
  | (.string bytes, d) => bytes.length + uptoBulk d + 1
  | (_, d) => uptoBulk d + 1
 end
def uptoSmall : (H : Type) → List (DataW H) → Bool := fun _ ds => decide (uptoBulkAll ds ≤ 1048576)
def OpenSpec.upto (s : _root_.Go.ChangeSpec) : _root_.Go.OpenSpec := { _root_.Go.OpenSpec.ofChange s with cond := some uptoSmall }

/-- 'permitofficelaw13.HazardFaults', WHERE WHAT IT READS IS OF BULK AT MOST 1048576: true; the input reads as it did. -/
def hazardFaultsUptoRow : OpenClaim := { program := "ytdpmfdcackoegaagreatdoor", sum := "ed129211b21693819504c33329848329b0b58d4404e10596cac8e0139c159981", func := "permitoffice/permitofficelaw13.HazardFaults", spec := "hazardFaults", unfollowed := true, recurses := true, named := ["permitoffice/lexeme.classes", "permitoffice/mask.positions"], apart := false, laid := [("permitoffice/lexeme.classes", laid_permitoffice_lexeme_classes), ("permitoffice/mask.positions", laid_permitoffice_mask_positions)], narrowed := true }
def HazardFaultsUptoSaid : Prop := hazardFaultsUptoRow.holds Tryz.pinned (OpenSpec.upto hazardFaultsSpec)

/-- 'permitofficelaw13.HazardHarmless', WHERE WHAT IT READS IS OF BULK AT MOST 1048576: true; the input reads as it did. -/
def hazardHarmlessUptoRow : OpenClaim := { program := "ytdpmfdcackoegaagreatdoor", sum := "ed129211b21693819504c33329848329b0b58d4404e10596cac8e0139c159981", func := "permitoffice/permitofficelaw13.HazardHarmless", spec := "hazardHarmless", unfollowed := true, recurses := true, named := ["permitoffice/lexeme.classes", "permitoffice/mask.positions"], apart := false, laid := [("permitoffice/lexeme.classes", laid_permitoffice_lexeme_classes), ("permitoffice/mask.positions", laid_permitoffice_mask_positions)], narrowed := true }
def HazardHarmlessUptoSaid : Prop := hazardHarmlessUptoRow.holds Tryz.pinned (OpenSpec.upto hazardHarmlessSpec)

/-- 'permitofficelaw13.HazardGround', WHERE WHAT IT READS IS OF BULK AT MOST 1048576: true; the input reads as it did. -/
def hazardGroundUptoRow : OpenClaim := { program := "ytdpmfdcackoegaagreatdoor", sum := "ed129211b21693819504c33329848329b0b58d4404e10596cac8e0139c159981", func := "permitoffice/permitofficelaw13.HazardGround", spec := "hazardGround", unfollowed := true, recurses := true, named := ["permitoffice/lexeme.classes", "permitoffice/mask.positions"], apart := false, laid := [("permitoffice/lexeme.classes", laid_permitoffice_lexeme_classes), ("permitoffice/mask.positions", laid_permitoffice_mask_positions)], narrowed := true }
def HazardGroundUptoSaid : Prop := hazardGroundUptoRow.holds Tryz.pinned (OpenSpec.upto hazardGroundSpec)

/-- 'permitofficelaw13.HazardExact', WHERE WHAT IT READS IS OF BULK AT MOST 1048576: true; the input reads as it did. -/
def hazardExactUptoRow : OpenClaim := { program := "ytdpmfdcackoegaagreatdoor", sum := "ed129211b21693819504c33329848329b0b58d4404e10596cac8e0139c159981", func := "permitoffice/permitofficelaw13.HazardExact", spec := "hazardExact", unfollowed := true, recurses := true, named := ["permitoffice/lexeme.classes", "permitoffice/mask.positions"], apart := false, laid := [("permitoffice/lexeme.classes", laid_permitoffice_lexeme_classes), ("permitoffice/mask.positions", laid_permitoffice_mask_positions)], narrowed := true }
def HazardExactUptoSaid : Prop := hazardExactUptoRow.holds Tryz.pinned (OpenSpec.upto hazardExactSpec)

/-- 'permitofficelaw13.HazardAnswers', WHERE WHAT IT READS IS OF BULK AT MOST 1048576: true; the input reads as it did. -/
def hazardAnswersUptoRow : OpenClaim := { program := "ytdpmfdcackoegaagreatdoor", sum := "ed129211b21693819504c33329848329b0b58d4404e10596cac8e0139c159981", func := "permitoffice/permitofficelaw13.HazardAnswers", spec := "hazardAnswers", unfollowed := true, recurses := true, named := ["permitoffice/lexeme.classes", "permitoffice/mask.positions"], apart := false, laid := [("permitoffice/lexeme.classes", laid_permitoffice_lexeme_classes), ("permitoffice/mask.positions", laid_permitoffice_mask_positions)], narrowed := true }
def HazardAnswersUptoSaid : Prop := hazardAnswersUptoRow.holds Tryz.pinned (OpenSpec.upto hazardAnswersSpec)

end Rows
end Go.Proofs.YtdpmfdcackoegaaGreatDoor
