import Derived.Test.YtiljpejjjgoeaaaDoorZ04
/-
  Plain facts on locks: their order, their errors, one more, one less.
-/
namespace Go.Proofs.YtiljpejjjgoeaaaDoor
structure Lk where
  dev : Int
  pos : Int
  key : Int
end Go.Proofs.YtiljpejjjgoeaaaDoor
