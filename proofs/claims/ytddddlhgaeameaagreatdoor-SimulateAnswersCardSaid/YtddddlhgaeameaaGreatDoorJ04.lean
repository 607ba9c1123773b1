import Derived.Test.YtddddlhgaeameaaGreatDoorJ02
namespace Go.Proofs.YtddddlhgaeameaaGreatDoor
open Go.RowKit Tryz
def wE (l : List Bool) : List Value := l.flatMap fun x => [Value.bool x]
theorem ws (l : List Bool) : wE l = l.map Value.bool := qf _ _
theorem mP (l : List Bool) (i : Nat) (x : Bool) : (wE l).set i (.bool x) = wE (l.set i x) := by rw [ws, ws, List.map_set]
theorem tz (n : Nat) (x : Bool) : List.replicate n (Value.bool x) = wE (List.replicate n x) := by rw [ws, List.map_replicate]
theorem rc (l : List Bool) : (wE l).length = l.length := by rw [ws, List.length_map]
def xU (w : World) (base : Nat) (A : Option Addr) (n c : Nat) (l : List Bool) : Prop := w.ownsRow base 4 1 (.slice A n c) n (wE l)
section
variable {w w' : World} {base n c i : Nat} {A : Option Addr} {m : List Bool}
theorem xU.len (h : xU w base A n c m) : m.length = n := by have := h.1; rw [rc] at this; omega
theorem xU.sl (h : xU w base A n c m) : Av w 1 A n c (wE m) := Sl.of_own h
theorem xU.at (h : xU w base A n c m) (hi : i < n) : ∃ g x, A = some ⟨g, 0, none⟩ ∧ base ≤ g ∧ g < w.heap.size ∧ m[i]? = some x ∧ w.cell? ⟨g, i, none⟩ = some (.bool x) ∧ w.frozen? ⟨g, i, none⟩ = false ∧ ∀ y, xU (w.setCell ⟨g, i, none⟩ (.bool y)) base A n c (m.set i y) := by
 obtain ⟨g, rfl, h1, h2⟩ := wJ h (by omega);have hl := h.len;refine ⟨g, m[i]'(by omega), rfl, h1, h2, List.getElem?_eq_getElem _, ?_, h.frozenAt i, fun y => ?_⟩
 ·rw [h.cellAt i (by omega), ws, List.getElem?_map, List.getElem?_eq_getElem (by omega)]; rfl
 ·have := (h.stored i (.bool y)).1
  rwa [mP] at this
theorem xU.later (h : xU w base A n c m) (hb : bW w w') : xU w' base A n c m := zM h hb
end
theorem oG (n : Nat) (hn : n ≤ 1000000) (w : World) : (Instr.makeSlice 159 (.int .i64 (n : Int)) (.int .i64 (n : Int))).run prog w = .ok (.slice (some ⟨w.heap.size, 0, none⟩) n n) (w.alloc (.cells (wE (List.replicate n false)).toArray 4)) := by
 rw [run_make_row' 159 4 (.bool false) 1 underlying159 (by kernel_rfl) rfl .i64 .i64 n (by omega) (by omega) w]
 congr 3
 apply Array.ext'
 rw [toList_madeCells_one, tz]
theorem kE {w : World} {base n : Nat} (hb : base ≤ w.heap.size) (hn : n ≤ 1000000) : xU (w.alloc (.cells (wE (List.replicate n false)).toArray 4)) base (some ⟨w.heap.size, 0, none⟩) n n (List.replicate n false) := pT hb (by omega) (by rw [rc, List.length_replicate])
end Go.Proofs.YtddddlhgaeameaaGreatDoor
