/-
  NARROWER THAN 'FOR EVERY INPUT', by the rows' own cells (each row's printed sentence says how): LocksetBack: laid · LocksetLimit: laid · LocksetAnswers: laid · LocksetWorst: laid.
  DERIVED. THE GIVEN ROWS OF THIS SEAT. 4 by the template 'for every input the law returns true; each argument reads behind the call as it read before'; 0 by the template 'total and deterministic' (their statements: YtfabeihlfgemdaaDoorTotals.lean).
  GIVEN WITH THE SEED: the statements are not yours to turn. If you find one false, say at which input.
  Laid BY PROGRAM, IN A SANDBOX (cutbox-rows.mjs): the forced cells as the released guide's own fill.sh prints them over the translation 2d512477089ff0e4… (all of the seat's roots in one cut). By AI agents, Wed Nov 11 2026. No macro, syntax, notation, axiom, sorry.
-/
import Derived.Test.YtfabeihlfgemdaaDoorChecked
import GoSem.Claim
import GoSem.ClaimJoined
import GoSem.ClaimMapViews
import Derived.JoinedTies
import Derived.KernelRfl
namespace Go.Proofs.YtfabeihlfgemdaaDoor
/- THE CELL 'sum', in the pinned program and in every row, IS THE sha256 OF THE DUMP (.gsa) THAT YtfabeihlfgemdaaDoorProg.lean LOADS. Nothing in Lean hashes anything: it is a label: what it is worth is what the hold of that sum in a sandbox is worth. -/
noncomputable def Tryd.pinned : Pinned := { name := "ytfabeihlfgemdaadoor", sum := "2d512477089ff0e4bb4265c609c7d9594a1746f511935a99c4abdf2352955dbc", checked := Tryd.checked }
namespace Rows
def none {H : Type} : Left H := { results := [], args := [] }

/- WHAT THE LISTED PACKAGE-LEVEL VARIABLES READ AS WHEN THE CALL BEGINS. Each datum BY PROGRAM (the guide's laid-datum.mjs) off the statement by which the dump's own 'gosem.cut.vars' lays the variable. In a bare row this is a premise. The card (YtfabeihlfgemdaaDoorCards.lean) ties it to the program's text. -/
def laid_permitoffice_lexeme_classes {H : Type} : DataW H := .agg [.agg [.lit (.int .u8 65), .lit (.int .u8 90), .lit (.bool true)], .agg [.lit (.int .u8 97), .lit (.int .u8 122), .lit (.bool true)], .agg [.lit (.int .u8 48), .lit (.int .u8 57), .lit (.bool false)], .agg [.lit (.int .u8 95), .lit (.int .u8 95), .lit (.bool false)]]

/-- 'permitofficelaw14.LocksetBack': WHATEVER THE INPUT: true; the input reads as it did. -/
def locksetBackSpec : ChangeSpec := { name := "locksetBack", fn := fun _ => fun
  | [d] => { results := [.lit (.bool true)], args := [d] }
  | _ => none }
def locksetBackRow : OpenClaim := { program := "ytfabeihlfgemdaadoor", sum := "2d512477089ff0e4bb4265c609c7d9594a1746f511935a99c4abdf2352955dbc", func := "permitoffice/permitofficelaw14.LocksetBack", spec := "locksetBack", unfollowed := true, recurses := true, named := ["permitoffice/lexeme.classes"], apart := false, laid := [("permitoffice/lexeme.classes", laid_permitoffice_lexeme_classes)] }
def LocksetBackSaid : Prop := locksetBackRow.holds Tryd.pinned (OpenSpec.ofChange locksetBackSpec)

/-- ITS FALSE NEIGHBOUR: 'it returns false'. Refute it at one input. -/
def locksetBackWrong : ChangeSpec := { name := "locksetBack", fn := fun _ => fun
  | [d] => { results := [.lit (.bool false)], args := [d] }
  | _ => none }
def LocksetBackWrongFalsely : Prop := locksetBackRow.holds Tryd.pinned (OpenSpec.ofChange locksetBackWrong)

/-- 'permitofficelaw14.LocksetLimit': WHATEVER THE INPUT: true; the input reads as it did. -/
def locksetLimitSpec : ChangeSpec := { name := "locksetLimit", fn := fun _ => fun
  | [d] => { results := [.lit (.bool true)], args := [d] }
  | _ => none }
def locksetLimitRow : OpenClaim := { program := "ytfabeihlfgemdaadoor", sum := "2d512477089ff0e4bb4265c609c7d9594a1746f511935a99c4abdf2352955dbc", func := "permitoffice/permitofficelaw14.LocksetLimit", spec := "locksetLimit", unfollowed := true, recurses := true, named := ["permitoffice/lexeme.classes"], apart := false, laid := [("permitoffice/lexeme.classes", laid_permitoffice_lexeme_classes)] }
def LocksetLimitSaid : Prop := locksetLimitRow.holds Tryd.pinned (OpenSpec.ofChange locksetLimitSpec)

/-- ITS FALSE NEIGHBOUR: 'it returns false'. Refute it at one input. -/
def locksetLimitWrong : ChangeSpec := { name := "locksetLimit", fn := fun _ => fun
  | [d] => { results := [.lit (.bool false)], args := [d] }
  | _ => none }
def LocksetLimitWrongFalsely : Prop := locksetLimitRow.holds Tryd.pinned (OpenSpec.ofChange locksetLimitWrong)

/-- 'permitofficelaw14.LocksetAnswers': WHATEVER THE INPUT: true; the input reads as it did. -/
def locksetAnswersSpec : ChangeSpec := { name := "locksetAnswers", fn := fun _ => fun
  | [d1, d2, d3, d4, d5, d6] => { results := [.lit (.bool true)], args := [d1, d2, d3, d4, d5, d6] }
  | _ => none }
def locksetAnswersRow : OpenClaim := { program := "ytfabeihlfgemdaadoor", sum := "2d512477089ff0e4bb4265c609c7d9594a1746f511935a99c4abdf2352955dbc", func := "permitoffice/permitofficelaw14.LocksetAnswers", spec := "locksetAnswers", unfollowed := true, recurses := true, named := ["permitoffice/lexeme.classes"], apart := false, laid := [("permitoffice/lexeme.classes", laid_permitoffice_lexeme_classes)] }
def LocksetAnswersSaid : Prop := locksetAnswersRow.holds Tryd.pinned (OpenSpec.ofChange locksetAnswersSpec)

/-- ITS FALSE NEIGHBOUR: 'it returns false'. Refute it at one input. -/
def locksetAnswersWrong : ChangeSpec := { name := "locksetAnswers", fn := fun _ => fun
  | [d1, d2, d3, d4, d5, d6] => { results := [.lit (.bool false)], args := [d1, d2, d3, d4, d5, d6] }
  | _ => none }
def LocksetAnswersWrongFalsely : Prop := locksetAnswersRow.holds Tryd.pinned (OpenSpec.ofChange locksetAnswersWrong)

/-- 'permitofficelaw14.LocksetWorst': WHATEVER THE INPUT: true; the input reads as it did. -/
def locksetWorstSpec : ChangeSpec := { name := "locksetWorst", fn := fun _ => fun
  | [d] => { results := [.lit (.bool true)], args := [d] }
  | _ => none }
def locksetWorstRow : OpenClaim := { program := "ytfabeihlfgemdaadoor", sum := "2d512477089ff0e4bb4265c609c7d9594a1746f511935a99c4abdf2352955dbc", func := "permitoffice/permitofficelaw14.LocksetWorst", spec := "locksetWorst", unfollowed := true, recurses := true, named := ["permitoffice/lexeme.classes"], apart := false, laid := [("permitoffice/lexeme.classes", laid_permitoffice_lexeme_classes)] }
def LocksetWorstSaid : Prop := locksetWorstRow.holds Tryd.pinned (OpenSpec.ofChange locksetWorstSpec)

/-- ITS FALSE NEIGHBOUR: 'it returns false'. Refute it at one input. -/
def locksetWorstWrong : ChangeSpec := { name := "locksetWorst", fn := fun _ => fun
  | [d] => { results := [.lit (.bool false)], args := [d] }
  | _ => none }
def LocksetWorstWrongFalsely : Prop := locksetWorstRow.holds Tryd.pinned (OpenSpec.ofChange locksetWorstWrong)

/- THE SECOND FORM. 'bulk': how many values and letters a reading holds, each counted each time it is reached (what is shared counts as often as it is met; a slice's spare places count too). A statement '..UptoSaid' is the law's where the arguments, and the package variables that the reading takes, are together of bulk at most 1048576: NARROWER than '..Said'. Prove '..Said' where nothing that the law and all that it calls make is longer than what came in: it says more and counts as full. Else prove '..UptoSaid'. A law counts once. -/
mutual
def uptoBulk {H : Type} : DataW H → Nat
  | .lit (.string bytes) => bytes.length + 1
  | .lit _ => 1
  | .nil => 1
  | .ptr d => uptoBulk d + 1
  | .slice elems spare => uptoBulkAll elems + uptoBulkAll spare + 1
  | .agg parts => uptoBulkAll parts + 1
  | .iface _ d => uptoBulk d + 1
  | .map entries => uptoBulkEntries entries + 1
  | .held _ => 1
def uptoBulkAll {H : Type} : List (DataW H) → Nat
  | [] => 0
  | d :: r => uptoBulk d + uptoBulkAll r
def uptoBulkEntries {H : Type} : List (Lit × DataW H) → Nat
  | [] => 0
  | x :: r => uptoBulkEntry x + uptoBulkEntries r
def uptoBulkEntry {H : Type} : Lit × DataW H → Nat
  | (.string bytes, d) => bytes.length + uptoBulk d + 1
  | (_, d) => uptoBulk d + 1
 end
def uptoSmall : (H : Type) → List (DataW H) → Bool := fun _ ds => decide (uptoBulkAll ds ≤ 1048576)
def OpenSpec.upto (s : _root_.Go.ChangeSpec) : _root_.Go.OpenSpec := { _root_.Go.OpenSpec.ofChange s with cond := some uptoSmall }

/-- 'permitofficelaw14.LocksetBack', WHERE WHAT IT READS IS OF BULK AT MOST 1048576: true; the input reads as it did. -/
def locksetBackUptoRow : OpenClaim := { program := "ytfabeihlfgemdaadoor", sum := "2d512477089ff0e4bb4265c609c7d9594a1746f511935a99c4abdf2352955dbc", func := "permitoffice/permitofficelaw14.LocksetBack", spec := "locksetBack", unfollowed := true, recurses := true, named := ["permitoffice/lexeme.classes"], apart := false, laid := [("permitoffice/lexeme.classes", laid_permitoffice_lexeme_classes)], narrowed := true }
def LocksetBackUptoSaid : Prop := locksetBackUptoRow.holds Tryd.pinned (OpenSpec.upto locksetBackSpec)

/-- 'permitofficelaw14.LocksetLimit', WHERE WHAT IT READS IS OF BULK AT MOST 1048576: true; the input reads as it did. -/
def locksetLimitUptoRow : OpenClaim := { program := "ytfabeihlfgemdaadoor", sum := "2d512477089ff0e4bb4265c609c7d9594a1746f511935a99c4abdf2352955dbc", func := "permitoffice/permitofficelaw14.LocksetLimit", spec := "locksetLimit", unfollowed := true, recurses := true, named := ["permitoffice/lexeme.classes"], apart := false, laid := [("permitoffice/lexeme.classes", laid_permitoffice_lexeme_classes)], narrowed := true }
def LocksetLimitUptoSaid : Prop := locksetLimitUptoRow.holds Tryd.pinned (OpenSpec.upto locksetLimitSpec)

/-- 'permitofficelaw14.LocksetAnswers', WHERE WHAT IT READS IS OF BULK AT MOST 1048576: true; the input reads as it did. -/
def locksetAnswersUptoRow : OpenClaim := { program := "ytfabeihlfgemdaadoor", sum := "2d512477089ff0e4bb4265c609c7d9594a1746f511935a99c4abdf2352955dbc", func := "permitoffice/permitofficelaw14.LocksetAnswers", spec := "locksetAnswers", unfollowed := true, recurses := true, named := ["permitoffice/lexeme.classes"], apart := false, laid := [("permitoffice/lexeme.classes", laid_permitoffice_lexeme_classes)], narrowed := true }
def LocksetAnswersUptoSaid : Prop := locksetAnswersUptoRow.holds Tryd.pinned (OpenSpec.upto locksetAnswersSpec)

/-- 'permitofficelaw14.LocksetWorst', WHERE WHAT IT READS IS OF BULK AT MOST 1048576: true; the input reads as it did. -/
def locksetWorstUptoRow : OpenClaim := { program := "ytfabeihlfgemdaadoor", sum := "2d512477089ff0e4bb4265c609c7d9594a1746f511935a99c4abdf2352955dbc", func := "permitoffice/permitofficelaw14.LocksetWorst", spec := "locksetWorst", unfollowed := true, recurses := true, named := ["permitoffice/lexeme.classes"], apart := false, laid := [("permitoffice/lexeme.classes", laid_permitoffice_lexeme_classes)], narrowed := true }
def LocksetWorstUptoSaid : Prop := locksetWorstUptoRow.holds Tryd.pinned (OpenSpec.upto locksetWorstSpec)

end Rows
end Go.Proofs.YtfabeihlfgemdaaDoor
