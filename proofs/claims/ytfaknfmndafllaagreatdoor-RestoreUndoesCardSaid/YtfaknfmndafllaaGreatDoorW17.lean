import Derived.Test.YtfaknfmndafllaaGreatDoorW16
namespace Go.Proofs.YtfaknfmndafllaaGreatDoor
open Go.RowKit
theorem ndOk_mk (i : Nat) (c p : Int) (hc : 0 ≤ c ∧ c ≤ 50) (hp : 0 ≤ p ∧ p ≤ 2) : NdOk i ⟨mkS (nm2 (toL ⟨#[78]⟩) i), c, p⟩ := ⟨rfl, hc.1, hc.2, hp.1, hp.2⟩
end Go.Proofs.YtfaknfmndafllaaGreatDoor
