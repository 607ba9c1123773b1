/-
  Walk of the statements' own makers: Mod.
-/
import Derived.Test.YtjinhfomfbcnjaaMk
namespace Go.Proofs.Ytjinhfomfbcnjaa
open Go.RowKit
theorem mod_any (a n : Int) (w : World) (h1 : 1 ≤ n) (h2 : n ≤ 1000000000) : Calls Try.prog 30 #[.int .i64 a, .int .i64 n] w fun e w' => (∃ k : Nat, e = .returned (.int .i64 k) ∧ (k : Int) < n) ∧ w = w' := by
  have hm1 := Int.tmod_lt_of_pos a (show (0 : Int) < n by omega)
  have hm0 : -n < a.tmod n := by
    have := Int.lt_tmod_of_pos a (show (0 : Int) < n by omega)
    exact this
  have h3 := Int.emod_lt_of_pos (a.tmod n + n) (show (0 : Int) < n by omega)
  have h4 : 0 ≤ (a.tmod n + n) % n := Int.emod_nonneg _ (by omega)
  have hn0 : (n == 0) = false := by simpa using by omega
  go_enter Try.func30, Try.ntmps30
  go_wp2
  go_ret
  refine ⟨⟨((a.tmod n + n) % n).toNat, ?_, by omega⟩, rfl⟩
  rw [Int.toNat_of_nonneg h4]
  rfl
end Go.Proofs.Ytjinhfomfbcnjaa
