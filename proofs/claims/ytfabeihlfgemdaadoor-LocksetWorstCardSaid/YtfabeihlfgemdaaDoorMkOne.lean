/-
  Walk of the statements' own makers: One.
-/
import Derived.Test.YtfabeihlfgemdaaDoorMk
namespace Go.Proofs.YtfabeihlfgemdaaDoor
open Go.RowKit
/-- true once in n times: only the deck has changed. -/
def OnePost (w : World) (g : Nat) (e : Ending) (w' : World) : Prop :=
  ∃ r : Bool, e = .returned (.bool r) ∧ Hid (DeckAt w' g) ∧ Hid (w.grownBy w' (some g)) ∧ Hid (w'.heap.size = w.heap.size)
theorem one_any (g : Nat) (n : Int) (w : World) (hd : DeckAt w g) (hn : n ≤ 9223372036854775807) : Calls Tryd.prog 35 #[.pointer (some ⟨g, 0, none⟩), .int .i64 n] w (OnePost w g) := by
  have HD := Lib.hid hd; clear hd
  go_enter Tryd.func35, Tryd.ntmps35
  go_wp2_with fail
  refine (next_any g n w HD.out hn).mono ?_
  rintro e w1 ⟨r, rfl, h0, h1, h2, h3, h4, h5⟩
  clear h1 h2
  go_wp2_with fail
  go_ret
  exact ⟨_, rfl, h3, h4, h5⟩
end Go.Proofs.YtfabeihlfgemdaaDoor
