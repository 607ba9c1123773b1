/-
  The reference of layer 6: masks; walk of masked.
-/
import Derived.Test.YtfabeihlfgemdaaDoorOwn
import Derived.Deep.LoopGhost
namespace Go.Proofs.YtfabeihlfgemdaaDoor
open Go.RowKit
def maskB (p : Int) : Bool := decide (1 ≤ p) && decide (p ≤ 3)
def MdR (w : World) (m : List Int) (n gk : Nat) (iv : Value) (wr : World) : Prop := ∃ i : Nat, iv = .int .i64 i ∧ i ≤ n ∧ gk = n - i ∧ Hid (∀ p ∈ m.take i, maskB p = true) ∧ Hid (Below w.heap.size w wr)
set_option maxRecDepth 100000 in
set_option maxHeartbeats 2000000 in
theorem masked_any (A : Option Addr) (n c B : Nat) (m : List Int) (w : World) (hs : Sl w B 1 A n c (intsV m)) (hB : B ≤ w.heap.size) : Calls Tryd.prog 53 #[.slice A n c] w fun e w' => e = .returned (.bool (m.all maskB)) ∧ Below w.heap.size w w' := by
  have HLM := Lib.hid (hs.len (fun _ => rfl) (by decide)); have HS := Lib.hid hs
  have hle := hs.le
  clear hs
  go_enter Tryd.func53, Tryd.ntmps53
  go_wp2_with fail
  go_loopg [3] n (MdR w m n)
  case atStart => exact ⟨0, rfl, Nat.zero_le _, rfl, (by unfold Hid; simp), Below.refl _ _⟩
  case round =>
    obtain ⟨i, rfl, hi, rfl, hok, hbl⟩ := hrel
    by_cases hlt : i < n
    · obtain ⟨b, off, x, rfl, hb, hx, hc⟩ := (HS.out.below hbl.out hB).at1 hlt
      have HX := Lib.hid hx
      clear hx
      by_cases h1 : x < 1
      · have q : decide (x < 1) = true := by simpa using h1
        have HR : Hid (m.all maskB = false) := by
          unfold Hid
          rw [List.all_eq_false]
          exact ⟨x, List.mem_of_getElem? HX.out, by simp [maskB]; omega⟩
        clear h1
        go_wp2_with fail
        go_ret
        exact ⟨ret_bool HR.out.symm, hbl.out⟩
      · have q : decide (x < 1) = false := by simpa using h1
        by_cases h2 : 3 < x
        · have q2 : decide (3 < x) = true := by simpa using h2
          have HR : Hid (m.all maskB = false) := by
            unfold Hid
            rw [List.all_eq_false]
            exact ⟨x, List.mem_of_getElem? HX.out, by simp [maskB]; omega⟩
          clear h1 h2
          go_wp2_with fail
          go_ret
          exact ⟨ret_bool HR.out.symm, hbl.out⟩
        · have q2 : decide (3 < x) = false := by simpa using h2
          have HR : Hid (∀ p ∈ m.take (i + 1), maskB p = true) := by
            intro p hp
            rw [take_snoc HX.out] at hp
            rcases List.mem_append.1 hp with h | h
            · exact hok.out p h
            · rw [List.mem_singleton.1 h]; simp [maskB]; omega
          clear h1 h2
          go_wp2_with fail
          go_roundg (n - (i + 1))
          case rel => exact ⟨i + 1, by go_num, by omega, rfl, HR, hbl⟩
          case measure => omega
    · obtain rfl : i = n := by omega
      have hii : decide (i < i) = false := by simp
      have HR : Hid (m.all maskB = true) := by
        unfold Hid
        have := hok.out
        rw [List.take_of_length_le (by rw [HLM.out]; exact Nat.le_refl _)] at this
        exact List.all_eq_true.2 this
      go_wp2_with fail
      go_ret
      exact ⟨ret_bool HR.out.symm, hbl.out⟩
end Go.Proofs.YtfabeihlfgemdaaDoor
