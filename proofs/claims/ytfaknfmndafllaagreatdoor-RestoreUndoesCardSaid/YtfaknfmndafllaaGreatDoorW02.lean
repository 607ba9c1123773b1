import Derived.Test.YtfaknfmndafllaaGreatDoorProg
import Derived.Test.YtfaknfmndafllaaGreatDoorW00
import Derived.Test.YtfaknfmndafllaaGreatDoorW01
import Derived.Outline
namespace Go.Proofs.YtfaknfmndafllaaGreatDoor
open Go.RowKit
def classesV : List Value := [.int .u8 65, .int .u8 90, .bool true, .int .u8 97, .int .u8 122, .bool true, .int .u8 48, .int .u8 57, .bool false, .int .u8 95, .int .u8 95, .bool false]
def positionsV : List Value := [.bool false, .bool false, .bool true, .bool true, .bool true, .bool true, .bool true, .bool false]
def Laid (w : World) : Prop := (∀ i u, classesV[i]? = some u → w.cell? ⟨1, i, none⟩ = some u) ∧ (∀ i u, positionsV[i]? = some u → w.cell? ⟨0, i, none⟩ = some u)
theorem Laid.lt {w : World} (h : Laid w) : 1 < w.heap.size ∧ 0 < w.heap.size := ⟨cell_lt (h.1 0 _ rfl), cell_lt (h.2 0 _ rfl)⟩
theorem Laid.below {w w' : World} {B : Nat} (h : Laid w) (hb : Below B w w') (hB : w.heap.size ≤ B) : Laid w' :=
 ⟨fun i u hu => (hb.cell (p := ⟨1, i, none⟩) (Nat.lt_of_lt_of_le h.lt.1 hB)).trans (h.1 i u hu), fun i u hu => (hb.cell (p := ⟨0, i, none⟩) (Nat.lt_of_lt_of_le h.lt.2 hB)).trans (h.2 i u hu)⟩
theorem Laid.alloc {w : World} (h : Laid w) (o : Obj) : Laid (w.alloc o) := h.below ((Below.refl _ _).alloc (Nat.le_refl _) _) (Nat.le_refl _)
end Go.Proofs.YtfaknfmndafllaaGreatDoor
