/-
  No cell of these rows narrows 'for every input' (looked for: loops, veiled, ifaces, maps, wideKeys, modest, calm, conditions, laid).
  DERIVED. THE GIVEN ROWS OF THIS SEAT. 6 by the template 'for every input the law returns true; each argument reads behind the call as it read before'; 0 by the template 'total and deterministic' (their statements: YtjinhfomfbcnjaaTotals.lean).
  GIVEN WITH THE SEED: the statements are not yours to turn. If you find one false, say at which input.
  Laid BY PROGRAM, IN A SANDBOX (cutbox-rows.mjs): the forced cells as the released guide's own fill.sh prints them over the translation 209b8b82ef819119… (all of the seat's roots in one cut). By AI agents, Wed Nov 11 2026. No macro, syntax, notation, axiom, sorry.
-/
import Derived.Test.YtjinhfomfbcnjaaChecked
import GoSem.Claim
import GoSem.ClaimJoined
import GoSem.ClaimMapViews
import Derived.JoinedTies
import Derived.KernelRfl
namespace Go.Proofs.Ytjinhfomfbcnjaa
/- THE CELL 'sum', in the pinned program and in every row, IS THE sha256 OF THE DUMP (.gsa) THAT YtjinhfomfbcnjaaProg.lean LOADS. Nothing in Lean hashes anything: it is a label: what it is worth is what the hold of that sum in a sandbox is worth. -/
noncomputable def Try.pinned : Pinned := { name := "ytjinhfomfbcnjaa", sum := "209b8b82ef81911914c26729fdfae09cd52d23e3ab608efacc0d948cc81a362e", checked := Try.checked }
namespace Rows
def none {H : Type} : Left H := { results := [], args := [] }

/-- 'permitofficelaw09.TelegramLost': WHATEVER THE INPUT: true; the input reads as it did. -/
def telegramLostSpec : ChangeSpec := { name := "telegramLost", fn := fun _ => fun
  | [d1, d2] => { results := [.lit (.bool true)], args := [d1, d2] }
  | _ => none }
def telegramLostRow : OpenClaim := { program := "ytjinhfomfbcnjaa", sum := "209b8b82ef81911914c26729fdfae09cd52d23e3ab608efacc0d948cc81a362e", func := "permitoffice/permitofficelaw09.TelegramLost", spec := "telegramLost", apart := false }
def TelegramLostSaid : Prop := telegramLostRow.holds Try.pinned (OpenSpec.ofChange telegramLostSpec)

/-- ITS FALSE NEIGHBOUR: 'it returns false'. Refute it at one input. -/
def telegramLostWrong : ChangeSpec := { name := "telegramLost", fn := fun _ => fun
  | [d1, d2] => { results := [.lit (.bool false)], args := [d1, d2] }
  | _ => none }
def TelegramLostWrongFalsely : Prop := telegramLostRow.holds Try.pinned (OpenSpec.ofChange telegramLostWrong)

/-- 'permitofficelaw09.TelegramReports': WHATEVER THE INPUT: true; the input reads as it did. -/
def telegramReportsSpec : ChangeSpec := { name := "telegramReports", fn := fun _ => fun
  | [d] => { results := [.lit (.bool true)], args := [d] }
  | _ => none }
def telegramReportsRow : OpenClaim := { program := "ytjinhfomfbcnjaa", sum := "209b8b82ef81911914c26729fdfae09cd52d23e3ab608efacc0d948cc81a362e", func := "permitoffice/permitofficelaw09.TelegramReports", spec := "telegramReports", apart := false }
def TelegramReportsSaid : Prop := telegramReportsRow.holds Try.pinned (OpenSpec.ofChange telegramReportsSpec)

/-- ITS FALSE NEIGHBOUR: 'it returns false'. Refute it at one input. -/
def telegramReportsWrong : ChangeSpec := { name := "telegramReports", fn := fun _ => fun
  | [d] => { results := [.lit (.bool false)], args := [d] }
  | _ => none }
def TelegramReportsWrongFalsely : Prop := telegramReportsRow.holds Try.pinned (OpenSpec.ofChange telegramReportsWrong)

/-- 'permitofficelaw09.TelegramBursts': WHATEVER THE INPUT: true; the input reads as it did. -/
def telegramBurstsSpec : ChangeSpec := { name := "telegramBursts", fn := fun _ => fun
  | [d1, d2, d3] => { results := [.lit (.bool true)], args := [d1, d2, d3] }
  | _ => none }
def telegramBurstsRow : OpenClaim := { program := "ytjinhfomfbcnjaa", sum := "209b8b82ef81911914c26729fdfae09cd52d23e3ab608efacc0d948cc81a362e", func := "permitoffice/permitofficelaw09.TelegramBursts", spec := "telegramBursts", apart := false }
def TelegramBurstsSaid : Prop := telegramBurstsRow.holds Try.pinned (OpenSpec.ofChange telegramBurstsSpec)

/-- ITS FALSE NEIGHBOUR: 'it returns false'. Refute it at one input. -/
def telegramBurstsWrong : ChangeSpec := { name := "telegramBursts", fn := fun _ => fun
  | [d1, d2, d3] => { results := [.lit (.bool false)], args := [d1, d2, d3] }
  | _ => none }
def TelegramBurstsWrongFalsely : Prop := telegramBurstsRow.holds Try.pinned (OpenSpec.ofChange telegramBurstsWrong)

/-- 'permitofficelaw09.TelegramReturns': WHATEVER THE INPUT: true; the input reads as it did. -/
def telegramReturnsSpec : ChangeSpec := { name := "telegramReturns", fn := fun _ => fun
  | [d] => { results := [.lit (.bool true)], args := [d] }
  | _ => none }
def telegramReturnsRow : OpenClaim := { program := "ytjinhfomfbcnjaa", sum := "209b8b82ef81911914c26729fdfae09cd52d23e3ab608efacc0d948cc81a362e", func := "permitoffice/permitofficelaw09.TelegramReturns", spec := "telegramReturns", apart := false }
def TelegramReturnsSaid : Prop := telegramReturnsRow.holds Try.pinned (OpenSpec.ofChange telegramReturnsSpec)

/-- ITS FALSE NEIGHBOUR: 'it returns false'. Refute it at one input. -/
def telegramReturnsWrong : ChangeSpec := { name := "telegramReturns", fn := fun _ => fun
  | [d] => { results := [.lit (.bool false)], args := [d] }
  | _ => none }
def TelegramReturnsWrongFalsely : Prop := telegramReturnsRow.holds Try.pinned (OpenSpec.ofChange telegramReturnsWrong)

/-- 'permitofficelaw09.TelegramCut': WHATEVER THE INPUT: true; the input reads as it did. -/
def telegramCutSpec : ChangeSpec := { name := "telegramCut", fn := fun _ => fun
  | [d1, d2] => { results := [.lit (.bool true)], args := [d1, d2] }
  | _ => none }
def telegramCutRow : OpenClaim := { program := "ytjinhfomfbcnjaa", sum := "209b8b82ef81911914c26729fdfae09cd52d23e3ab608efacc0d948cc81a362e", func := "permitoffice/permitofficelaw09.TelegramCut", spec := "telegramCut", apart := false }
def TelegramCutSaid : Prop := telegramCutRow.holds Try.pinned (OpenSpec.ofChange telegramCutSpec)

/-- ITS FALSE NEIGHBOUR: 'it returns false'. Refute it at one input. -/
def telegramCutWrong : ChangeSpec := { name := "telegramCut", fn := fun _ => fun
  | [d1, d2] => { results := [.lit (.bool false)], args := [d1, d2] }
  | _ => none }
def TelegramCutWrongFalsely : Prop := telegramCutRow.holds Try.pinned (OpenSpec.ofChange telegramCutWrong)

/-- 'permitofficelaw09.TelegramAnswers': WHATEVER THE INPUT: true; the input reads as it did. -/
def telegramAnswersSpec : ChangeSpec := { name := "telegramAnswers", fn := fun _ => fun
  | [d1, d2, d3, d4, d5] => { results := [.lit (.bool true)], args := [d1, d2, d3, d4, d5] }
  | _ => none }
def telegramAnswersRow : OpenClaim := { program := "ytjinhfomfbcnjaa", sum := "209b8b82ef81911914c26729fdfae09cd52d23e3ab608efacc0d948cc81a362e", func := "permitoffice/permitofficelaw09.TelegramAnswers", spec := "telegramAnswers", apart := false }
def TelegramAnswersSaid : Prop := telegramAnswersRow.holds Try.pinned (OpenSpec.ofChange telegramAnswersSpec)

/-- ITS FALSE NEIGHBOUR: 'it returns false'. Refute it at one input. -/
def telegramAnswersWrong : ChangeSpec := { name := "telegramAnswers", fn := fun _ => fun
  | [d1, d2, d3, d4, d5] => { results := [.lit (.bool false)], args := [d1, d2, d3, d4, d5] }
  | _ => none }
def TelegramAnswersWrongFalsely : Prop := telegramAnswersRow.holds Try.pinned (OpenSpec.ofChange telegramAnswersWrong)

/- THE SECOND FORM. 'bulk': how many values and letters a reading holds, each counted each time it is reached (what is shared counts as often as it is met; a slice's spare places count too). A statement '..UptoSaid' is the law's where the arguments, and the package variables that the reading takes, are together of bulk at most 1048576: NARROWER than '..Said'. Prove '..Said' where nothing that the law and all that it calls make is longer than what came in: it says more and counts as full. Else prove '..UptoSaid'. A law counts once. -/
mutual
def uptoBulk {H : Type} : DataW H → Nat
  | .lit (.string bytes) => bytes.length + 1
  | .lit _ => 1
  | .nil => 1
  | .ptr d => uptoBulk d + 1
  | .slice elems spare => uptoBulkAll elems + uptoBulkAll spare + 1
  | .agg parts => uptoBulkAll parts + 1
  | .iface _ d => uptoBulk d + 1
  | .map entries => uptoBulkEntries entries + 1
  | .held _ => 1
def uptoBulkAll {H : Type} : List (DataW H) → Nat
  | [] => 0
  | d :: r => uptoBulk d + uptoBulkAll r
def uptoBulkEntries {H : Type} : List (Lit × DataW H) → Nat
  | [] => 0
  | x :: r => uptoBulkEntry x + uptoBulkEntries r
def uptoBulkEntry {H : Type} : Lit × DataW H → Nat
  | (.string bytes, d) => bytes.length + uptoBulk d + 1
  | (_, d) => uptoBulk d + 1
 end
def uptoSmall : (H : Type) → List (DataW H) → Bool := fun _ ds => decide (uptoBulkAll ds ≤ 1048576)
def OpenSpec.upto (s : _root_.Go.ChangeSpec) : _root_.Go.OpenSpec := { _root_.Go.OpenSpec.ofChange s with cond := some uptoSmall }

/-- 'permitofficelaw09.TelegramLost', WHERE WHAT IT READS IS OF BULK AT MOST 1048576: true; the input reads as it did. -/
def telegramLostUptoRow : OpenClaim := { program := "ytjinhfomfbcnjaa", sum := "209b8b82ef81911914c26729fdfae09cd52d23e3ab608efacc0d948cc81a362e", func := "permitoffice/permitofficelaw09.TelegramLost", spec := "telegramLost", apart := false, narrowed := true }
def TelegramLostUptoSaid : Prop := telegramLostUptoRow.holds Try.pinned (OpenSpec.upto telegramLostSpec)

/-- 'permitofficelaw09.TelegramReports', WHERE WHAT IT READS IS OF BULK AT MOST 1048576: true; the input reads as it did. -/
def telegramReportsUptoRow : OpenClaim := { program := "ytjinhfomfbcnjaa", sum := "209b8b82ef81911914c26729fdfae09cd52d23e3ab608efacc0d948cc81a362e", func := "permitoffice/permitofficelaw09.TelegramReports", spec := "telegramReports", apart := false, narrowed := true }
def TelegramReportsUptoSaid : Prop := telegramReportsUptoRow.holds Try.pinned (OpenSpec.upto telegramReportsSpec)

/-- 'permitofficelaw09.TelegramBursts', WHERE WHAT IT READS IS OF BULK AT MOST 1048576: true; the input reads as it did. -/
def telegramBurstsUptoRow : OpenClaim := { program := "ytjinhfomfbcnjaa", sum := "209b8b82ef81911914c26729fdfae09cd52d23e3ab608efacc0d948cc81a362e", func := "permitoffice/permitofficelaw09.TelegramBursts", spec := "telegramBursts", apart := false, narrowed := true }
def TelegramBurstsUptoSaid : Prop := telegramBurstsUptoRow.holds Try.pinned (OpenSpec.upto telegramBurstsSpec)

/-- 'permitofficelaw09.TelegramReturns', WHERE WHAT IT READS IS OF BULK AT MOST 1048576: true; the input reads as it did. -/
def telegramReturnsUptoRow : OpenClaim := { program := "ytjinhfomfbcnjaa", sum := "209b8b82ef81911914c26729fdfae09cd52d23e3ab608efacc0d948cc81a362e", func := "permitoffice/permitofficelaw09.TelegramReturns", spec := "telegramReturns", apart := false, narrowed := true }
def TelegramReturnsUptoSaid : Prop := telegramReturnsUptoRow.holds Try.pinned (OpenSpec.upto telegramReturnsSpec)

/-- 'permitofficelaw09.TelegramCut', WHERE WHAT IT READS IS OF BULK AT MOST 1048576: true; the input reads as it did. -/
def telegramCutUptoRow : OpenClaim := { program := "ytjinhfomfbcnjaa", sum := "209b8b82ef81911914c26729fdfae09cd52d23e3ab608efacc0d948cc81a362e", func := "permitoffice/permitofficelaw09.TelegramCut", spec := "telegramCut", apart := false, narrowed := true }
def TelegramCutUptoSaid : Prop := telegramCutUptoRow.holds Try.pinned (OpenSpec.upto telegramCutSpec)

/-- 'permitofficelaw09.TelegramAnswers', WHERE WHAT IT READS IS OF BULK AT MOST 1048576: true; the input reads as it did. -/
def telegramAnswersUptoRow : OpenClaim := { program := "ytjinhfomfbcnjaa", sum := "209b8b82ef81911914c26729fdfae09cd52d23e3ab608efacc0d948cc81a362e", func := "permitoffice/permitofficelaw09.TelegramAnswers", spec := "telegramAnswers", apart := false, narrowed := true }
def TelegramAnswersUptoSaid : Prop := telegramAnswersUptoRow.holds Try.pinned (OpenSpec.upto telegramAnswersSpec)

end Rows
end Go.Proofs.Ytjinhfomfbcnjaa
