/-
  Walks of layer 9: the statements' sanity check 'awake' returns true.
-/
import Derived.Test.YtjinhfomfbcnjaaTeleW3
namespace Go.Proofs.Ytjinhfomfbcnjaa
open Go.RowKit

def digits9 : List UInt8 := [49, 50, 51, 52, 53, 54, 55, 56, 57]
theorem crc_digits : crcAll digits9 = 10673#16 := by decide +kernel
theorem check12 : checkT 1 2 [] = 0 := by decide
theorem enc12 : (encT 1 2 []).length = 6 := by decide +kernel
set_option maxHeartbeats 1000000 in
theorem awake_any (w : World) : Calls Try.prog 10 #[] w fun e w' => e = .returned (.bool true) ∧ Below w.heap.size w w' := by
  have kc := fun (w : World) (C : Array Value) (n c : Nat) => Lib.run_convert_bytes_const (P := Try.prog) w 42 5 C n c Try.underlying42 Try.underlying5
  go_enter Try.func10, Try.ntmps10
  go_wp2_with fail
  refine (encode_any 1 2 none 0 0 w.heap.size [] w (Sl.nil _ _ _) (Nat.le_refl _)).mono ?_
  rintro e w1 ⟨A, c, rfl, _, hb⟩
  rw [check12, enc12]
  go_wp2_with fail
  refine (checksum_any _ 9 9 (w1.heap.size + 1) digits9 _ (Sl.newest rfl rfl (by decide))).mono ?_
  rintro e w2 ⟨rfl, rfl⟩
  rw [crc_digits]
  go_wp2_with fail
  go_ret
  exact ⟨rfl, hb.alloc (by have := hb.size; omega) _⟩
end Go.Proofs.Ytjinhfomfbcnjaa
