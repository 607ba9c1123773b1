import Derived.Test.YtkkobemhbicjgaaGreatDoorQ31
namespace Go.Proofs.YtkkobemhbicjgaaGreatDoor
open Go.RowKit
theorem Bst.put {w wr : World} {nt gr st : Array Value} {g i : Nat} {u : Value} (h : Bst w nt gr st wr) (hg : w.heap.size + 3 < g) : Bst w nt gr st (wr.setCell ⟨g, i, none⟩ u) :=
 ⟨h.b0.far (by show w.heap.size ≠ g; omega) _, h.b1.far (by show w.heap.size + 1 ≠ g; omega) _, h.b2.far (by show w.heap.size + 2 ≠ g; omega) _, h.b3.far (by show w.heap.size + 3 ≠ g; omega) _, h.bl.setCell (by show w.heap.size ≤ g; omega) _⟩
end Go.Proofs.YtkkobemhbicjgaaGreatDoor
