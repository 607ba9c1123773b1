import Derived.Test.YtiljpejjjgoeaaaDoorZ33
import Derived.Test.YtiljpejjjgoeaaaDoorZ25
import Derived.Test.YtiljpejjjgoeaaaDoorZ07
import Derived.Deep.LoopGhost
/-
  The references of layer 14: walks of fault, before, Locked, Check.
-/
namespace Go.Proofs.YtiljpejjjgoeaaaDoor
open Go.RowKit
end Go.Proofs.YtiljpejjjgoeaaaDoor
/-
  Memory: parts of a slice of structs.
-/
namespace Go.Proofs.YtiljpejjjgoeaaaDoor
open Go.RowKit
section
variable {w : World} {B size n c k : Nat} {A : Option Addr} {α : Type} {f : α → List Value} {l : List α}
end
end Go.Proofs.YtiljpejjjgoeaaaDoor
