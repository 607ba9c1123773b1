/-
  DERIVED. GIVEN WITH THE SEED: THE PROGRAM's TIES (one call each: nine closed facts by the kernel) AND EACH ROW's TIE, after the 31st guide's Derived/Test/Toyas{Tie, Card}.lean. No idea stands in it: it is a product of the set-up. Laid BY PROGRAM, IN A SANDBOX (cutbox-door.mjs). By AI agents, Wed Nov 11 2026. No macro, syntax, notation, axiom, sorry.
-/
import Derived.Test.YtddddlhgaeameaaGreatDoorRows
import Derived.LaidByTextLater
import Derived.SevenTiedAt
import Derived.LaidSub
import Derived.LaidOnce
namespace Go.Proofs.YtddddlhgaeameaaGreatDoor
open Go
set_option maxRecDepth 100000
theorem seatTie1 : Tryz.prog.laidByTextLater [("permitoffice/lexeme.classes", Rows.laid_permitoffice_lexeme_classes), ("permitoffice/mask.positions", Rows.laid_permitoffice_mask_positions)] [.data, .data] true :=
  Program.laidByTextLater_by_one 27 8 13 (by kernel_rfl) (by kernel_rfl) (by kernel_rfl) (by kernel_rfl) (by kernel_rfl) (by kernel_rfl) (fun _ _ => by kernel_rfl)
theorem noOwnUnsafe : Tryz.pinned.checked.prog.headLifts.contains "ownunsafe" = false := by kernel_rfl
theorem tie : Tryz.prog.laidByTextLater [("permitoffice/lexeme.classes", Rows.laid_permitoffice_lexeme_classes), ("permitoffice/mask.positions", Rows.laid_permitoffice_mask_positions)] [.data, .data] true :=
  Program.laidByTextLater.sub seatTie1 ["permitoffice/lexeme.classes", "permitoffice/mask.positions"] (by kernel_rfl) (by kernel_rfl)
theorem simulateAnswers_row_tie : Rows.simulateAnswersRow.laidByTextAt .later Tryz.pinned [.data, .data] true :=
  OpenClaim.laidByTextAt_later rfl rfl tie noOwnUnsafe
theorem simulateSteps_row_tie : Rows.simulateStepsRow.laidByTextAt .later Tryz.pinned [.data, .data] true :=
  OpenClaim.laidByTextAt_later rfl rfl tie noOwnUnsafe
theorem simulateMoves_row_tie : Rows.simulateMovesRow.laidByTextAt .later Tryz.pinned [.data, .data] true :=
  OpenClaim.laidByTextAt_later rfl rfl tie noOwnUnsafe
theorem simulateAnswersUpto_row_tie : Rows.simulateAnswersUptoRow.laidByTextAt .later Tryz.pinned [.data, .data] true :=
  OpenClaim.laidByTextAt_later rfl rfl tie noOwnUnsafe
theorem simulateStepsUpto_row_tie : Rows.simulateStepsUptoRow.laidByTextAt .later Tryz.pinned [.data, .data] true :=
  OpenClaim.laidByTextAt_later rfl rfl tie noOwnUnsafe
theorem simulateMovesUpto_row_tie : Rows.simulateMovesUptoRow.laidByTextAt .later Tryz.pinned [.data, .data] true :=
  OpenClaim.laidByTextAt_later rfl rfl tie noOwnUnsafe
end Go.Proofs.YtddddlhgaeameaaGreatDoor
