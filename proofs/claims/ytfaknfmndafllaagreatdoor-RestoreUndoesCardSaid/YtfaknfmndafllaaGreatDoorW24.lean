import Derived.Test.YtfaknfmndafllaaGreatDoorW02
namespace Go.Proofs.YtfaknfmndafllaaGreatDoor
open Go.RowKit
theorem Laid.grown {w0 w w' : World} {g : Nat} (h : Laid w) (h0 : Laid w0) (hg : w.grownBy w' (some g)) (hge : w0.heap.size ≤ g) : Laid w' :=
 ⟨fun i u hu => (World.cell?_of_block (hg.block _ h.lt.1 (fun e => by have h1 := h0.lt.1; have h2 := Option.some.inj e; simp only at h2; omega))).trans (h.1 i u hu), fun i u hu => (World.cell?_of_block (hg.block _ h.lt.2 (fun e => by have h1 := h0.lt.2; have h2 := Option.some.inj e; simp only at h2; omega))).trans (h.2 i u hu)⟩
end Go.Proofs.YtfaknfmndafllaaGreatDoor
