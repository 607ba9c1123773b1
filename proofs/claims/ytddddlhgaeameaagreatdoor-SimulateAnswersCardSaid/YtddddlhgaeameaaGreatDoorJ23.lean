import Derived.Test.YtddddlhgaeameaaGreatDoorJ01
namespace Go.Proofs.YtddddlhgaeameaaGreatDoor
open Go.RowKit
theorem yr.grown {w0 w w' : World} {g : Nat} (h : yr w) (h0 : yr w0) (hg : w.grownBy w' (some g)) (Sb : w0.heap.size ≤ g) : yr w' :=
 ⟨fun i u hu => (World.cell?_of_block (hg.block _ h.lt.1 (fun e => by have h1 := h0.lt.1; have h2 := Option.some.inj e; simp only at h2; omega))).trans (h.1 i u hu), fun i u hu => (World.cell?_of_block (hg.block _ h.lt.2 (fun e => by have h1 := h0.lt.2; have h2 := Option.some.inj e; simp only at h2; omega))).trans (h.2 i u hu)⟩
end Go.Proofs.YtddddlhgaeameaaGreatDoor
