import Derived.Test.YtfaknfmndafllaaGreatDoorU14
import Derived.Test.YtfaknfmndafllaaGreatDoorU07
namespace Go.Proofs.YtfaknfmndafllaaGreatDoor
open Go.RowKit
structure RpSt (w : World) (N : Array Value) (go nn : Nat) (out : List Int) (wr : World) : Prop where
 bx : Blk wr w.heap.size 30 N
 ob : IntsO wr (w.heap.size + 1) (some ⟨go, 0, none⟩) nn nn out
 bl : Below w.heap.size w wr
section
variable {w wr wr' : World} {N : Array Value} {go nn : Nat} {out : List Int}
theorem RpSt.ge (h : RpSt w N go nn out wr) : w.heap.size + 1 ≤ go ∧ go < wr.heap.size := h.ob.lt go rfl
theorem RpSt.later (h : RpSt w N go nn out wr) (hb : Below wr.heap.size wr wr') : RpSt w N go nn out wr' := ⟨h.bx.below hb h.bx.lt, h.ob.later hb, h.bl.trans (hb.mono h.bl.size)⟩
theorem RpSt.alloc (h : RpSt w N go nn out wr) (o : Obj) : RpSt w N go nn out (wr.alloc o) := h.later ((Below.refl _ _).alloc (Nat.le_refl _) _)
theorem RpSt.drew (h : RpSt w N go nn out wr) : RpSt w N go nn out wr.drew := h.later (Below.refl _ _).drew
theorem RpSt.put (h : RpSt w N go nn out wr) {k : Nat} (hk : k < nn) (v : Int) : RpSt w N go nn (out.set k v) (wr.setCell ⟨go, k, none⟩ (.int .i64 v)) := by
 have hg := h.ge
 obtain ⟨g, x, hA, h1, h2, hx, hc, hf, hst⟩ := h.ob.at hk
 injection hA with hA
 injection hA with hA
 subst hA
 exact ⟨h.bx.far (by simp; omega) _, hst v, h.bl.setCell (by simp; omega) _⟩
theorem RpSt.cell (h : RpSt w N go nn out wr) {k : Nat} (hk : k < nn) : ∃ x, out[k]? = some x ∧ wr.cell? ⟨go, k, none⟩ = some (.int .i64 x) ∧ wr.frozen? ⟨go, k, none⟩ = false := by
 obtain ⟨g, x, hA, h1, h2, hx, hc, hf, hst⟩ := h.ob.at hk
 injection hA with hA
 injection hA with hA
 subst hA
 exact ⟨x, hx, hc, hf⟩
end
end Go.Proofs.YtfaknfmndafllaaGreatDoor
