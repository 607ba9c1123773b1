import Derived.Test.YtddddlhgaeameaaGreatDoorProg
import Derived.Test.YtddddlhgaeameaaGreatDoorJ00
import Derived.Outline
namespace Go.Proofs.YtddddlhgaeameaaGreatDoor
open Go.RowKit
def wN : List Value := [.int .u8 65, .int .u8 90, .bool true, .int .u8 97, .int .u8 122, .bool true, .int .u8 48, .int .u8 57, .bool false, .int .u8 95, .int .u8 95, .bool false]
def uj : List Value := [.bool false, .bool false, .bool true, .bool true, .bool true, .bool true, .bool true, .bool false]
def yr (w : World) : Prop := (∀ i u, wN[i]? = some u → w.cell? ⟨1, i, none⟩ = some u) ∧ (∀ i u, uj[i]? = some u → w.cell? ⟨0, i, none⟩ = some u)
theorem yr.lt {w : World} (h : yr w) : 1 < w.heap.size ∧ 0 < w.heap.size := ⟨wU (h.1 0 _ rfl), wU (h.2 0 _ rfl)⟩
theorem yr.below {w w' : World} {B : Nat} (h : yr w) (hb : Below B w w') (hB : w.heap.size ≤ B) : yr w' :=
 ⟨fun i u hu => (hb.cell (p := ⟨1, i, none⟩) (Nat.lt_of_lt_of_le h.lt.1 hB)).trans (h.1 i u hu), fun i u hu => (hb.cell (p := ⟨0, i, none⟩) (Nat.lt_of_lt_of_le h.lt.2 hB)).trans (h.2 i u hu)⟩
theorem yr.alloc {w : World} (h : yr w) (o : Obj) : yr (w.alloc o) := h.below ((Below.refl _ _).alloc lR _) lR
end Go.Proofs.YtddddlhgaeameaaGreatDoor
