import Derived.Test.YtkkobemhbicjgaaGreatDoorG02
namespace Go.Proofs.YtkkobemhbicjgaaGreatDoor
open Go.RowKit
def boolsV (l : List Bool) : List Value := l.flatMap fun x => [Value.bool x]
theorem boolsV_map (l : List Bool) : boolsV l = l.map Value.bool := flat1_map _ _
theorem boolsV_set (l : List Bool) (i : Nat) (x : Bool) : (boolsV l).set i (.bool x) = boolsV (l.set i x) := by rw [boolsV_map, boolsV_map, List.map_set]
theorem boolsV_replicate (n : Nat) (x : Bool) : List.replicate n (Value.bool x) = boolsV (List.replicate n x) := by rw [boolsV_map, List.map_replicate]
theorem boolsV_len (l : List Bool) : (boolsV l).length = l.length := by rw [boolsV_map, List.length_map]
def BoolsO (w : World) (base : Nat) (A : Option Addr) (n c : Nat) (l : List Bool) : Prop := w.ownsRow base 4 1 (.slice A n c) n (boolsV l)
section
variable {w w' : World} {base n c i : Nat} {A : Option Addr} {m : List Bool}
theorem BoolsO.len (h : BoolsO w base A n c m) : m.length = n := by have := h.1; rw [boolsV_len] at this; omega
theorem BoolsO.sl (h : BoolsO w base A n c m) : Sl w w.heap.size 1 A n c (boolsV m) := Sl.of_own h
theorem BoolsO.at (h : BoolsO w base A n c m) (hi : i < n) : ∃ g x, A = some ⟨g, 0, none⟩ ∧ base ≤ g ∧ g < w.heap.size ∧ m[i]? = some x ∧ w.cell? ⟨g, i, none⟩ = some (.bool x) ∧ w.frozen? ⟨g, i, none⟩ = false ∧ ∀ y, BoolsO (w.setCell ⟨g, i, none⟩ (.bool y)) base A n c (m.set i y) := by
 obtain ⟨g, rfl, h1, h2⟩ := own_some h (by omega)
 have hl := h.len
 refine ⟨g, m[i]'(by omega), rfl, h1, h2, List.getElem?_eq_getElem _, ?_, h.frozenAt i, fun y => ?_⟩
 ·rw [h.cellAt i (by omega), boolsV_map, List.getElem?_map, List.getElem?_eq_getElem (by omega)]; rfl
 ·have := (h.stored i (.bool y)).1
  rwa [boolsV_set] at this
theorem BoolsO.later (h : BoolsO w base A n c m) (hb : Below w.heap.size w w') : BoolsO w' base A n c m := own_later h hb
end
theorem run_mk_bool (n : Nat) (hn : n ≤ 1000000) (w : World) : (Instr.makeSlice 188 (.int .i64 (n : Int)) (.int .i64 (n : Int))).run Tryz.prog w = .ok (.slice (some ⟨w.heap.size, 0, none⟩) n n) (w.alloc (.cells (boolsV (List.replicate n false)).toArray 4)) := by
 rw [run_make_row' 188 4 (.bool false) 1 Tryz.underlying188 (by kernel_rfl) rfl .i64 .i64 n (by omega) (by omega) w]
 congr 3
 apply Array.ext'
 rw [toList_madeCells_one, boolsV_replicate]
theorem bools_new {w : World} {base n : Nat} (hb : base ≤ w.heap.size) (hn : n ≤ 1000000) : BoolsO (w.alloc (.cells (boolsV (List.replicate n false)).toArray 4)) base (some ⟨w.heap.size, 0, none⟩) n n (List.replicate n false) := own_new hb (by omega) (by rw [boolsV_len, List.length_replicate])
end Go.Proofs.YtkkobemhbicjgaaGreatDoor
