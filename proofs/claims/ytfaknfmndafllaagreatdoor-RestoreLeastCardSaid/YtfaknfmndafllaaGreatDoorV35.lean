import Derived.Test.YtfaknfmndafllaaGreatDoorV30
import Derived.Test.YtfaknfmndafllaaGreatDoorV34
namespace Go.Proofs.YtfaknfmndafllaaGreatDoor
section
variable {ns : List Nd} {ds : List Dv} {s t : List Int} {d : Nat} {x : Dv}
theorem tog_is (s : List Int) (d : Nat) : tog s d = s.set d (3 - s.getD d 0) := rfl
end
end Go.Proofs.YtfaknfmndafllaaGreatDoor
