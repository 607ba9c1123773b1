import Derived.Test.YtiljpejjjgoeaaaDoorZ27
import Derived.Test.YtiljpejjjgoeaaaDoorZ12
import Derived.Test.YtiljpejjjgoeaaaDoorZ18
/-
  The references of layer 7: walk of Colours.
-/
namespace Go.Proofs.YtiljpejjjgoeaaaDoor
open Go.RowKit
end Go.Proofs.YtiljpejjjgoeaaaDoor
/-
  The references of layers 3 and 11: walks of Has, sum.
-/
namespace Go.Proofs.YtiljpejjjgoeaaaDoor
open Go.RowKit
def HaR (w : World) (l : List Int) (x : Int) (n gk : Nat) (iv : Value) (wr : World) : Prop := ∃ i : Nat, iv = .int .i64 i ∧ i ≤ n ∧ gk = n - i ∧ wr = w ∧ Hid (∀ k, k < i → l[k]? ≠ some x)
set_option maxHeartbeats 2000000 in
theorem rhas_any (A : Option Addr) (n c : Nat) (l : List Int) (x : Int) (w : World) (hs : Sl w w.heap.size 1 A n c (intsV l)) :
    Calls Tryd.prog 14 #[.slice A n c, .int .i64 x] w fun e w' => e = .returned (.bool (decide (x ∈ l))) ∧ w = w' := by
  have hnm := hs.le
  have HS := Lib.hid hs
  have HLN := Lib.hid (hs.len (fun _ => rfl) (by decide))
  clear hs
  go_enter Tryd.func14, Tryd.ntmps14
  go_wp2_with fail
  go_loopg [5] n (HaR w l x n)
  case atStart => exact ⟨0, rfl, Nat.zero_le _, rfl, rfl, fun k hk => absurd hk (by omega)⟩
  case round =>
    obtain ⟨i, rfl, hi, rfl, rfl, hno⟩ := hrel
    by_cases hlt : i < n
    · obtain ⟨b, off, y, rfl, hb, hy, hc⟩ := HS.out.at1 hlt
      have HY := Lib.hid hy
      clear hy
      by_cases hxy : y = x
      · have q : (y == x) = true := by simpa using hxy
        have HR : Hid (decide (x ∈ l) = true) := by
          unfold Hid
          rw [decide_eq_true_eq, ← hxy]
          exact List.mem_of_getElem? HY.out
        clear hxy
        go_wp2_with fail
        go_ret
        exact ⟨ret_bool HR.out.symm, rfl⟩
      · have q : (y == x) = false := by simpa using hxy
        have HN : Hid (∀ k, k < i + 1 → l[k]? ≠ some x) := fun k hk e => by
          rcases Nat.lt_succ_iff_lt_or_eq.1 hk with h | rfl
          · exact hno.out k h e
          · rw [HY.out] at e; injection e with e; exact hxy e
        clear hxy
        go_wp2_with fail
        go_roundg (n - (i + 1))
        case rel => exact ⟨i + 1, by go_num, by omega, rfl, rfl, HN⟩
        case measure => omega
    · obtain rfl : i = n := by omega
      have hii : decide (i < i) = false := by simp
      have HR : Hid (decide (x ∈ l) = false) := by
        unfold Hid
        rw [decide_eq_false_iff_not]
        intro hm
        obtain ⟨k, hk⟩ := List.mem_iff_getElem?.1 hm
        exact hno.out k (by have := (List.getElem?_eq_some_iff.1 hk).1; rw [HLN.out] at this; exact this) hk
      go_wp2_with fail
      go_ret
      exact ⟨ret_bool HR.out.symm, rfl⟩
end Go.Proofs.YtiljpejjjgoeaaaDoor
