import Derived.Test.YtddddlhgaeameaaGreatDoorM03
namespace Go.Proofs.YtddddlhgaeameaaGreatDoor
open Go.RowKit
def wC (l : List Bool) : List Value := l.flatMap fun x => [Value.bool x]
theorem wZ (l : List Bool) : wC l = l.map Value.bool := qB _ _
theorem nQ (l : List Bool) (i : Nat) (x : Bool) : (wC l).set i (.bool x) = wC (l.set i x) := by rw [wZ, wZ, List.map_set]
theorem tY (n : Nat) (x : Bool) : List.replicate n (Value.bool x) = wC (List.replicate n x) := by rw [wZ, List.map_replicate]
theorem rH (l : List Bool) : (wC l).length = l.length := by rw [wZ, List.length_map]
def xQ (w : World) (base : Nat) (A : Option Addr) (n c : Nat) (l : List Bool) : Prop := w.ownsRow base 4 1 (.slice A n c) n (wC l)
section
variable {w w' : World} {base n c i : Nat} {A : Option Addr} {m : List Bool}
theorem xQ.len (h : xQ w base A n c m) : m.length = n := by have := h.1; rw [rH] at this; omega
theorem xQ.sl (h : xQ w base A n c m) : Sl w w.heap.size 1 A n c (wC m) := Sl.of_own h
theorem xQ.at (h : xQ w base A n c m) (hi : i < n) : ∃ g x, A = some ⟨g, 0, none⟩ ∧ base ≤ g ∧ g < w.heap.size ∧ m[i]? = some x ∧ w.cell? ⟨g, i, none⟩ = some (.bool x) ∧ w.frozen? ⟨g, i, none⟩ = false ∧ ∀ y, xQ (w.setCell ⟨g, i, none⟩ (.bool y)) base A n c (m.set i y) := by
 obtain ⟨g, rfl, h1, h2⟩ := wG h (by omega)
 have hl := h.len
 refine ⟨g, m[i]'(by omega), rfl, h1, h2, List.getElem?_eq_getElem _, ?_, h.frozenAt i, fun y => ?_⟩
 ·rw [h.cellAt i (by omega), wZ, List.getElem?_map, List.getElem?_eq_getElem (by omega)]; rfl
 ·have := (h.stored i (.bool y)).1
  rwa [nQ] at this
theorem xQ.later (h : xQ w base A n c m) (hb : Below w.heap.size w w') : xQ w' base A n c m := zx h hb
end
theorem pT (n : Nat) (hn : n ≤ 1000000) (w : World) : (Instr.makeSlice 159 (.int .i64 (n : Int)) (.int .i64 (n : Int))).run Tryz.prog w = .ok (.slice (some ⟨w.heap.size, 0, none⟩) n n) (w.alloc (.cells (wC (List.replicate n false)).toArray 4)) := by
 rw [run_make_row' 159 4 (.bool false) 1 Tryz.underlying159 (by kernel_rfl) rfl .i64 .i64 n (by omega) (by omega) w]
 congr 3
 apply Array.ext'
 rw [toList_madeCells_one, tY]
theorem my {w : World} {base n : Nat} (hb : base ≤ w.heap.size) (hn : n ≤ 1000000) : xQ (w.alloc (.cells (wC (List.replicate n false)).toArray 4)) base (some ⟨w.heap.size, 0, none⟩) n n (List.replicate n false) := qh hb (by omega) (by rw [rH, List.length_replicate])
end Go.Proofs.YtddddlhgaeameaaGreatDoor
