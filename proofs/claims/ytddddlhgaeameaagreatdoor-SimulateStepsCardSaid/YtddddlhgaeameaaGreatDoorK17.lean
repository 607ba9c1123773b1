import Derived.Test.YtddddlhgaeameaaGreatDoorK16
namespace Go.Proofs.YtddddlhgaeameaaGreatDoor
open Go.RowKit
structure vr (w : World) (N : Array Value) (go nn : Nat) (out : List Int) (wr : World) : Prop where
 bx : Blk wr w.heap.size 26 N
 ob : zW wr (w.heap.size + 1) (some ⟨go, 0, none⟩) nn nn out
 bl : Below w.heap.size w wr
section
variable {w wr wr' : World} {N : Array Value} {go nn : Nat} {out : List Int}
theorem vr.ge (h : vr w N go nn out wr) : w.heap.size + 1 ≤ go ∧ go < wr.heap.size := h.ob.lt go rfl
theorem vr.later (h : vr w N go nn out wr) (hb : Below wr.heap.size wr wr') : vr w N go nn out wr' := ⟨h.bx.below hb h.bx.lt, h.ob.later hb, h.bl.trans (hb.mono h.bl.size)⟩
theorem vr.alloc (h : vr w N go nn out wr) (o : Obj) : vr w N go nn out (wr.alloc o) := h.later ((Below.refl _ _).alloc lR _)
theorem vr.drew (h : vr w N go nn out wr) : vr w N go nn out wr.drew := h.later (Below.refl _ _).drew
theorem vr.put (h : vr w N go nn out wr) {k : Nat} (hk : k < nn) (v : Int) : vr w N go nn (out.set k v) (wr.setCell ⟨go, k, none⟩ (.int .i64 v)) := by
 have hg := h.ge
 obtain ⟨g, x, hA, h1, h2, hx, hc, hf, hst⟩ := h.ob.at hk
 injection hA with hA
 injection hA with hA
 subst hA
 exact ⟨h.bx.far (by simp; omega) _, hst v, h.bl.setCell (by simp; omega) _⟩
theorem vr.cell (h : vr w N go nn out wr) {k : Nat} (hk : k < nn) : ∃ x, out[k]? = some x ∧ wr.cell? ⟨go, k, none⟩ = some (.int .i64 x) ∧ wr.frozen? ⟨go, k, none⟩ = false := by
 obtain ⟨g, x, hA, h1, h2, hx, hc, hf, hst⟩ := h.ob.at hk
 injection hA with hA
 injection hA with hA
 subst hA
 exact ⟨x, hx, hc, hf⟩
end
end Go.Proofs.YtddddlhgaeameaaGreatDoor
