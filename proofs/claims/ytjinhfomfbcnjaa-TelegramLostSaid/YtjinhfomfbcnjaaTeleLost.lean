/-
  Walk of TelegramLost: so many telegrams are missing as were not counted.
-/
import Derived.Test.YtjinhfomfbcnjaaTeleAwake
import Derived.OpenShut
namespace Go.Proofs.Ytjinhfomfbcnjaa
open Go.RowKit
set_option maxHeartbeats 1000000 in
theorem walk_TelegramLost (w : World) (a : Int) (wa : (Lit.int .u8 a).wf = true) (b : Int) (wb : (Lit.int .u8 b).wf = true) :
    Calls Try.prog 3 #[.int .u8 a, .int .u8 b] w fun e w' => e = .returned (.bool true) ∧ Below w.heap.size w w' := by
  obtain ⟨ha0, ha1⟩ := bounds_u8 wa
  obtain ⟨hb0, hb1⟩ := bounds_u8 wb
  clear wa wb
  go_enter Try.func3, Try.ntmps3
  go_wp2_with fail
  refine (lost_any _ _ _).mono ?_
  rintro e w1 ⟨rfl, rfl⟩
  have e1 : lostE a ((a + b + 1) % 256) = 0 := by
    simp [lostE, octB]; omega
  have e2 : lostT a ((a + b + 1) % 256) = b := by
    simp [lostT, octB]; omega
  rw [e1, e2]
  clear e1 e2
  go_wp2_with fail
  refine (lost_any _ _ _).mono ?_
  rintro e w1 ⟨rfl, rfl⟩
  have e1 : lostE a a = 0 := by simp [lostE, octB]; omega
  have e2 : lostT a a = 255 := by simp [lostT, octB]; omega
  rw [e1, e2]
  clear e1 e2
  go_wp2_with fail
  refine (awake_any _).mono ?_
  rintro e w2 ⟨rfl, hb⟩
  go_wp2_with fail
  go_ret
  exact ⟨rfl, hb⟩
end Go.Proofs.Ytjinhfomfbcnjaa
