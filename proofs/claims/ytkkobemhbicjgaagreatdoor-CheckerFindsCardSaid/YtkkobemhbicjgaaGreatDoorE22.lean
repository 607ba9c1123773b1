import Derived.Test.YtkkobemhbicjgaaGreatDoorE21
namespace Go.Proofs.YtkkobemhbicjgaaGreatDoor
section
open Go.RowKit
end
section
open Go.RowKit
end
end Go.Proofs.YtkkobemhbicjgaaGreatDoor
