import Derived.Test.YtepicjpdhpojnaaGreatDoorX27
namespace Go.Proofs.YtepicjpdhpojnaaGreatDoor
open Go.RowKit
theorem yp.nb_rown {w0 W W' : World} {g : Nat} {dmax : Int} {An Ad : Option Addr} {nn cn nd cd : Nat} {ns : List Nd} {ds : List Dv} (h : yp w0 g dmax An nn cn ns Ad nd cd ds W) (hg : W.grownBy W' (Value.slice An nn cn).ownBlock) : Blk W' (w0.heap.size + 3) 30 #[.slice An nn cn, .slice Ad nd cd] := h.nb.grown hg (fun e => by have := (h.rn.lt _ e.symm).1; omega)
end Go.Proofs.YtepicjpdhpojnaaGreatDoor
