import Derived.Test.YtbjndpjligpjaaaDoorZ02
/-
  The program's tables behind a change of one block.
-/
namespace Go.Proofs.YtbjndpjligpjaaaDoor
open Go.RowKit
theorem Laid.grown {w0 w w' : World} {g : Nat} (h : Laid w) (h0 : Laid w0) (hg : w.grownBy w' (some g)) (hge : w0.heap.size ≤ g) : Laid w' :=
  ⟨fun i u hu => (World.cell?_of_block (hg.block _ h.lt (fun e => by have h1 := h0.lt; have h2 := Option.some.inj e; simp only at h2; omega))).trans (h.1 i u hu), trivial⟩
end Go.Proofs.YtbjndpjligpjaaaDoor
