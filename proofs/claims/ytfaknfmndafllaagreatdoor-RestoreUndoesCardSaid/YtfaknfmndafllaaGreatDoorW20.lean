import Derived.Test.YtfaknfmndafllaaGreatDoorW18
import Derived.IntWalk
namespace Go.Proofs.YtfaknfmndafllaaGreatDoor
open Go.RowKit
theorem keep_cell {w w' : World} {p : Addr} {v : Value} (hb : Below w.heap.size w w') (h : w.cell? p = some v) : w'.cell? p = some v := (hb.cell (cell_lt h)).trans h
theorem ordBad_at {ls : List Lk} {i : Nat} {p k : Lk} (h0 : 0 < i) (hp : ls[i - 1]? = some p) : ordBad ls i k = !befB p k := by unfold ordBad; rw [hp, decide_eq_true h0]; simp
end Go.Proofs.YtfaknfmndafllaaGreatDoor
