import Derived.Test.YtiljpejjjgoeaaaDoorZ03
import Derived.Deep.LoopGhost
/-
  The references of layer 1: walks of letter, digit, Name.
-/
namespace Go.Proofs.YtiljpejjjgoeaaaDoor
open Go.RowKit
def letC (b : Int) : Bool := (decide (65 ≤ b) && decide (b ≤ 90)) || (decide (97 ≤ b) && decide (b ≤ 122))
def digC (b : Int) : Bool := decide (48 ≤ b) && decide (b ≤ 57)
theorem fit_later (b : Int) : fitC b false = (letC b || digC b || decide (b = 95)) := by
  unfold fitC letC digC
  by_cases h1 : 65 ≤ b ∧ b ≤ 90
  · simp [h1]
  · by_cases h2 : 97 ≤ b ∧ b ≤ 122
    · simp [h2]
    · rw [if_neg h1, if_neg h2]
      have : (decide (65 ≤ b) && decide (b ≤ 90)) = false := by simpa using h1
      have h2' : (decide (97 ≤ b) && decide (b ≤ 122)) = false := by simpa using h2
      rw [this, h2']
      by_cases h3 : 48 ≤ b ∧ b ≤ 57
      · simp [h3]
      · have h3' : (decide (48 ≤ b) && decide (b ≤ 57)) = false := by simpa using h3
        rw [if_neg h3, h3']
        by_cases h4 : b = 95 <;> simp [h4]
end Go.Proofs.YtiljpejjjgoeaaaDoor
