import Derived.Test.YtkkobemhbicjgaaGreatDoorE02
namespace Go.Proofs.YtkkobemhbicjgaaGreatDoor
open Go.RowKit
def xf (l : List Bool) : List Value := l.flatMap fun x => [Value.bool x]
theorem xz (l : List Bool) : xf l = l.map Value.bool := rY _ _
theorem nU (l : List Bool) (i : Nat) (x : Bool) : (xf l).set i (.bool x) = xf (l.set i x) := by rw [xz, xz, List.map_set]
theorem tF (n : Nat) (x : Bool) : List.replicate n (Value.bool x) = xf (List.replicate n x) := by rw [xz, List.map_replicate]
theorem sf (l : List Bool) : (xf l).length = l.length := by rw [xz, List.length_map]
def yu (w : World) (base : Nat) (A : Option Addr) (n c : Nat) (l : List Bool) : Prop := w.ownsRow base 4 1 (.slice A n c) n (xf l)
section
variable {w w' : World} {base n c i : Nat} {A : Option Addr} {m : List Bool}
theorem yu.len (h : yu w base A n c m) : m.length = n := by have := h.1; rw [sf] at this; omega
theorem yu.sl (h : yu w base A n c m) : Sl w w.heap.size 1 A n c (xf m) := Sl.of_own h
theorem yu.at (h : yu w base A n c m) (hi : i < n) : ∃ g x, A = some ⟨g, 0, none⟩ ∧ base ≤ g ∧ g < w.heap.size ∧ m[i]? = some x ∧ w.cell? ⟨g, i, none⟩ = some (.bool x) ∧ w.frozen? ⟨g, i, none⟩ = false ∧ ∀ y, yu (w.setCell ⟨g, i, none⟩ (.bool y)) base A n c (m.set i y) := by
 obtain ⟨g, rfl, h1, h2⟩ := pM h (by omega)
 have hl := h.len
 refine ⟨g, m[i]'(by omega), rfl, h1, h2, List.getElem?_eq_getElem _, ?_, h.frozenAt i, fun y => ?_⟩
 ·rw [h.cellAt i (by omega), xz, List.getElem?_map, List.getElem?_eq_getElem (by omega)]; rfl
 ·have := (h.stored i (.bool y)).1
  rwa [nU] at this
theorem yu.later (h : yu w base A n c m) (hb : Below w.heap.size w w') : yu w' base A n c m := zt h hb
end
theorem pH (n : Nat) (hn : n ≤ 1000000) (w : World) : (Instr.makeSlice 188 (.int .i64 (n : Int)) (.int .i64 (n : Int))).run Tryz.prog w = .ok (.slice (some ⟨w.heap.size, 0, none⟩) n n) (w.alloc (.cells (xf (List.replicate n false)).toArray 4)) := by
 rw [run_make_row' 188 4 (.bool false) 1 Tryz.underlying188 (by kernel_rfl) rfl .i64 .i64 n (by omega) (by omega) w]
 congr 3
 apply Array.ext'
 rw [toList_madeCells_one, tF]
theorem lp {w : World} {base n : Nat} (hb : base ≤ w.heap.size) (hn : n ≤ 1000000) : yu (w.alloc (.cells (xf (List.replicate n false)).toArray 4)) base (some ⟨w.heap.size, 0, none⟩) n n (List.replicate n false) := ue hb (by omega) (by rw [sf, List.length_replicate])
end Go.Proofs.YtkkobemhbicjgaaGreatDoor
