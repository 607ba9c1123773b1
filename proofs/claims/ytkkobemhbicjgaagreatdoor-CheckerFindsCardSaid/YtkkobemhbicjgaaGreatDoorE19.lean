import Derived.Test.YtkkobemhbicjgaaGreatDoorE17
import Derived.IntWalk
namespace Go.Proofs.YtkkobemhbicjgaaGreatDoor
open Go.RowKit
theorem zJ {w w' : World} {p : Addr} {v : Value} (hb : Below w.heap.size w w') (h : w.cell? p = some v) : w'.cell? p = some v := (hb.cell (wK h)).trans h
theorem lI {ls : List Lk} {i : Nat} {p k : Lk} (h0 : 0 < i) (hp : ls[i - 1]? = some p) : xP ls i k = !yC p k := by unfold xP; rw [hp, decide_eq_true h0]; simp
end Go.Proofs.YtkkobemhbicjgaaGreatDoor
