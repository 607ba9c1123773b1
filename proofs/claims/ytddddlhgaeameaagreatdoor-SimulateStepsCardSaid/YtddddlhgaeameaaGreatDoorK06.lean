import Derived.Test.YtddddlhgaeameaaGreatDoorK03
namespace Go.Proofs.YtddddlhgaeameaaGreatDoor
open Go.RowKit
def xj (l : List Bool) : List Value := l.flatMap fun x => [Value.bool x]
theorem xu (l : List Bool) : xj l = l.map Value.bool := rY _ _
theorem oU (l : List Bool) (i : Nat) (x : Bool) : (xj l).set i (.bool x) = xj (l.set i x) := by rw [xu, xu, List.map_set]
theorem ux (n : Nat) (x : Bool) : List.replicate n (Value.bool x) = xj (List.replicate n x) := by rw [xu, List.map_replicate]
theorem sW (l : List Bool) : (xj l).length = l.length := by rw [xu, List.length_map]
def yq (w : World) (base : Nat) (A : Option Addr) (n c : Nat) (l : List Bool) : Prop := w.ownsRow base 4 1 (.slice A n c) n (xj l)
section
variable {w w' : World} {base n c i : Nat} {A : Option Addr} {m : List Bool}
theorem yq.len (h : yq w base A n c m) : m.length = n := by have := h.1; rw [sW] at this; omega
theorem yq.sl (h : yq w base A n c m) : Sl w w.heap.size 1 A n c (xj m) := Sl.of_own h
theorem yq.at (h : yq w base A n c m) (hi : i < n) : ∃ g x, A = some ⟨g, 0, none⟩ ∧ base ≤ g ∧ g < w.heap.size ∧ m[i]? = some x ∧ w.cell? ⟨g, i, none⟩ = some (.bool x) ∧ w.frozen? ⟨g, i, none⟩ = false ∧ ∀ y, yq (w.setCell ⟨g, i, none⟩ (.bool y)) base A n c (m.set i y) := by
 obtain ⟨g, rfl, h1, h2⟩ := qo h (by omega)
 have hl := h.len
 refine ⟨g, m[i]'(by omega), rfl, h1, h2, List.getElem?_eq_getElem _, ?_, h.frozenAt i, fun y => ?_⟩
 ·rw [h.cellAt i (by omega), xu, List.getElem?_map, List.getElem?_eq_getElem (by omega)]; rfl
 ·have := (h.stored i (.bool y)).1
  rwa [oU] at this
theorem yq.later (h : yq w base A n c m) (hb : Below w.heap.size w w') : yq w' base A n c m := za h hb
end
theorem qa (n : Nat) (hn : n ≤ 1000000) (w : World) : (Instr.makeSlice 159 (.int .i64 (n : Int)) (.int .i64 (n : Int))).run Tryz.prog w = .ok (.slice (some ⟨w.heap.size, 0, none⟩) n n) (w.alloc (.cells (xj (List.replicate n false)).toArray 4)) := by
 rw [run_make_row' 159 4 (.bool false) 1 Tryz.underlying159 (by kernel_rfl) rfl .i64 .i64 n (by omega) (by omega) w]
 congr 3
 apply Array.ext'
 rw [toList_madeCells_one, ux]
theorem mC {w : World} {base n : Nat} (hb : base ≤ w.heap.size) (hn : n ≤ 1000000) : yq (w.alloc (.cells (xj (List.replicate n false)).toArray 4)) base (some ⟨w.heap.size, 0, none⟩) n n (List.replicate n false) := tT hb (by omega) (by rw [sW, List.length_replicate])
end Go.Proofs.YtddddlhgaeameaaGreatDoor
