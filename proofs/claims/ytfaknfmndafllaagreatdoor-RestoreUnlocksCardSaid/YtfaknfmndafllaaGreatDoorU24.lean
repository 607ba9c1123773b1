import Derived.Test.YtfaknfmndafllaaGreatDoorU22
import Derived.Test.YtfaknfmndafllaaGreatDoorU23
import Derived.Test.YtfaknfmndafllaaGreatDoorU17
import Derived.Test.YtfaknfmndafllaaGreatDoorU18
namespace Go.Proofs.YtfaknfmndafllaaGreatDoor
open Go.RowKit
structure LwN (w : World) (nb : Nat) (An : Option Addr) (nn cn : Nat) (ns : List Nd) (Ad : Option Addr) (nd cd : Nat) (ds : List Dv) (wr : World) : Prop where
 dk : DeckAt wr w.heap.size
 bx : Blk wr nb 30 #[.slice An nn cn, .slice Ad nd cd]
 hn : SlX wr w.heap.size 3 An nn cn (ns.flatMap Nd.cells)
 hd : SlX wr w.heap.size 5 Ad nd cd (ds.flatMap Dv.cells)
 bl : Below w.heap.size w wr
 ge : w.heap.size < nb
 la : Laid wr
section
variable {w wr wr' : World} {nb nn cn nd cd : Nat} {An Ad : Option Addr} {ns : List Nd} {ds : List Dv}
theorem LwN.grown (h : LwN w nb An nn cn ns Ad nd cd ds wr) (hl : Laid w) (hg : wr.grownBy wr' (some w.heap.size)) (hd : DeckAt wr' w.heap.size) : LwN w nb An nn cn ns Ad nd cd ds wr' :=
 ⟨hd, h.bx.grown hg (fun e => by have := h.ge; injection e; omega), h.hn.grown hg, h.hd.grown hg, h.bl.trans (below_of_grown hg (Nat.le_refl _) h.bl.size), h.ge, h.la.grown hl hg (Nat.le_refl _)⟩
theorem LwN.later (h : LwN w nb An nn cn ns Ad nd cd ds wr) (hb : Below wr.heap.size wr wr') : LwN w nb An nn cn ns Ad nd cd ds wr' :=
 ⟨h.dk.grown (grown_of_below hb none) (fun k e => by cases e), h.bx.below hb h.bx.lt, h.hn.below hb, h.hd.below hb, h.bl.trans (hb.mono h.bl.size), h.ge, h.la.below hb (Nat.le_refl _)⟩
theorem LwN.mk0 {w1 w2 : World} {nodes dmax : Int} (hl : Laid w) (hb1 : Below w.heap.size w w1) (hs1 : w1.heap.size = w.heap.size + 1) (hd2 : DeckAt w2 w.heap.size) (hg2 : w1.grownBy w2 (some w.heap.size))
 (hrn : w2.ownsRow (w1.heap.size + 4) 80 3 (.slice An nn cn) nn (ns.flatMap Nd.cells)) (hrd : w2.ownsRow (w1.heap.size + 4) 68 5 (.slice Ad nd cd) nd (ds.flatMap Dv.cells)) (_hm : MadeNet nodes dmax ns ds) :
 LwN w w2.heap.size An nn cn ns Ad nd cd ds (w2.alloc (.cells #[.slice An nn cn, .slice Ad nd cd] 30)) ∧ ns.length = nn ∧ ds.length = nd := by
 have hb2 : Below w.heap.size w w2 := hb1.trans (below_of_grown hg2 (Nat.le_refl _) (by omega))
 refine ⟨⟨hd2.alloc _, Blk.new _ _ _, (SlX.of_own hrn (by omega)).alloc _, (SlX.of_own hrd (by omega)).alloc _, hb2.alloc hb2.size _, ?_, (hl.below hb2 (Nat.le_refl _)).alloc _⟩, (Sl.of_own hrn).len (fun _ => rfl) (by decide), (Sl.of_own hrd).len (fun _ => rfl) (by decide)⟩
 have := hg2.size; omega
end
end Go.Proofs.YtfaknfmndafllaaGreatDoor
