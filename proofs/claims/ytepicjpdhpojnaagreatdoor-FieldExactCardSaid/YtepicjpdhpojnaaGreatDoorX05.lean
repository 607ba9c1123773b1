import Derived.Test.YtepicjpdhpojnaaGreatDoorX04
namespace Go.Proofs.YtepicjpdhpojnaaGreatDoor
section
open Go.RowKit
theorem mm : wM Tryz.prog 27 74 3 32 := wM.mk' (z := .agg #[.string ⟨#[]⟩, .int .i64 0, .int .i64 0]) Tryz.underlying27 (by kernel_rfl) rfl (by decide)
theorem kk : wM Tryz.prog 28 38 5 48 := wM.mk' (z := .agg #[.string ⟨#[]⟩, .int .i64 0, .int .i64 0, .int .i64 0, .int .i64 0]) Tryz.underlying28 (by kernel_rfl) rfl (by decide)
structure yp (w0 : World) (g : Nat) (dmax : Int) (An : Option Addr) (nn cn : Nat) (ns : List Nd) (Ad : Option Addr) (nd cd : Nat) (ds : List Dv) (w : World) : Prop where
 lt : g < w0.heap.size
 deck : zU w g
 gr : w0.grownBy w (some g)
 pb : Blk w w0.heap.size 25 #[.pointer (some ⟨g, 0, none⟩)]
 db : Blk w (w0.heap.size + 1) 3 #[.int .i64 dmax]
 rb : Blk w (w0.heap.size + 2) 30 #[.slice none 0 0, .slice none 0 0]
 nb : Blk w (w0.heap.size + 3) 30 #[.slice An nn cn, .slice Ad nd cd]
 rn : w.ownsRow (w0.heap.size + 4) 74 3 (.slice An nn cn) nn (ns.flatMap Nd.cells)
 rd : w.ownsRow (w0.heap.size + 4) 38 5 (.slice Ad nd cd) nd (ds.flatMap Dv.cells)
 ne : (Value.slice An nn cn).ownBlock = none ∨ (Value.slice An nn cn).ownBlock ≠ (Value.slice Ad nd cd).ownBlock
section
variable {w0 w w' : World} {g : Nat} {dmax : Int} {An Ad : Option Addr} {nn cn nd cd : Nat} {ns : List Nd} {ds : List Dv}
theorem yp.size (h : yp w0 g dmax An nn cn ns Ad nd cd ds w) : w0.heap.size + 4 ≤ w.heap.size := h.nb.lt
theorem zf {v : Value} {q : Nat} (h : ∀ b, v.ownBlock = some b → b ≠ q) : v.ownBlock = none ∨ v.ownBlock ≠ some q := by
 cases hv : v.ownBlock with
 | none => exact .inl rfl
 | some b => exact .inr fun e => by injection e with e; exact h b hv e
theorem yp.next (h : yp w0 g dmax An nn cn ns Ad nd cd ds w) (hd : zU w' g) (hg : w.grownBy w' (some g)) : yp w0 g dmax An nn cn ns Ad nd cd ds w' := by
 have hl := h.lt
 exact ⟨hl, hd, zO h.gr hg, h.pb.grown hg (by simp; omega), h.db.grown hg (by simp; omega), h.rb.grown hg (by simp; omega), h.nb.grown hg (by simp; omega), h.rn.kept hg (zf fun b e => by have := (h.rn.lt b e).1; omega), h.rd.kept hg (zf fun b e => by have := (h.rd.lt b e).1; omega), h.ne⟩
theorem yp.later (h : yp w0 g dmax An nn cn ns Ad nd cd ds w) (hb : Below w.heap.size w w') : yp w0 g dmax An nn cn ns Ad nd cd ds w' := by
 have hg := zN hb none
 exact ⟨h.lt, h.deck.below hb h.deck.lt, zO h.gr (zN hb _), h.pb.below hb h.pb.lt, h.db.below hb h.db.lt, h.rb.below hb h.rb.lt, h.nb.below hb h.nb.lt, h.rn.kept hg (Classical.em _), h.rd.kept hg (Classical.em _), h.ne⟩
theorem yp.alloc (h : yp w0 g dmax An nn cn ns Ad nd cd ds w) (o : Obj) : yp w0 g dmax An nn cn ns Ad nd cd ds (w.alloc o) := h.later ((Below.refl _ _).alloc lR _)
theorem yp.drew (h : yp w0 g dmax An nn cn ns Ad nd cd ds w) : yp w0 g dmax An nn cn ns Ad nd cd ds w.drew := h.later (Below.refl _ _).drew
theorem yp.store {q j : Nat} {u : Value} (h : yp w0 g dmax An nn cn ns Ad nd cd ds w) (hq : w0.heap.size + 4 ≤ q) (hn : ∀ b, (Value.slice An nn cn).ownBlock = some b → b ≠ q) (hd : ∀ b, (Value.slice Ad nd cd).ownBlock = some b → b ≠ q) : yp w0 g dmax An nn cn ns Ad nd cd ds (w.setCell ⟨q, j, none⟩ u) := by
 have hl := h.lt
 have hg : w.grownBy (w.setCell ⟨q, j, none⟩ u) (some q) := ⟨rfl, rfl, rfl, by simp [World.setCell], fun i _ hi => Below.heap_setCell w _ _ i (fun e => hi (by rw [e]))⟩
 exact ⟨hl, h.deck.setCell (by simp; omega) _, zg h.gr (by simp; omega) _, h.pb.far (by simp; omega) _, h.db.far (by simp; omega) _, h.rb.far (by simp; omega) _, h.nb.far (by simp; omega) _, h.rn.kept hg (zf hn), h.rd.kept hg (zf hd), h.ne⟩
theorem yp.dev {A1 : Option Addr} {c1 : Nat} {x : Dv} {w1 : World} (h : yp w0 g dmax An nn cn ns Ad nd cd ds w) (ho : w1.ownsRow (w0.heap.size + 4) 38 5 (.slice A1 (nd + 1) c1) (nd + 1) (ds.flatMap Dv.cells ++ x.cells)) (hg : w.grownBy w1 (Value.slice Ad nd cd).ownBlock)
 (hv : (Value.slice A1 (nd + 1) c1).ownBlock = (Value.slice Ad nd cd).ownBlock ∨ (Value.slice A1 (nd + 1) c1).ownBlock = some w.heap.size) : yp w0 g dmax An nn cn ns A1 (nd + 1) c1 (ds ++ [x]) (w1.setCell ⟨w0.heap.size + 3, 1, none⟩ (.slice A1 (nd + 1) c1)) := by
 have hl := h.lt
 have hz := h.size
 have hr : ∀ b, (Value.slice Ad nd cd).ownBlock = some b → w0.heap.size + 4 ≤ b ∧ b < w.heap.size := fun b e => h.rd.lt b e
 have hr1 : ∀ b, (Value.slice A1 (nd + 1) c1).ownBlock = some b → w0.heap.size + 4 ≤ b := fun b e => (ho.lt b e).1
 have far : ∀ q, q < w0.heap.size + 4 → some q ≠ (Value.slice Ad nd cd).ownBlock := fun q hq e => by have := (hr q e.symm).1; omega
 have hnn : (Value.slice An nn cn).ownBlock = none ∨ (Value.slice An nn cn).ownBlock ≠ (Value.slice Ad nd cd).ownBlock := h.ne
 have hg3 : w1.grownBy (w1.setCell ⟨w0.heap.size + 3, 1, none⟩ (.slice A1 (nd + 1) c1)) (some (w0.heap.size + 3)) := ⟨rfl, rfl, rfl, by simp [World.setCell], fun i _ hi => Below.heap_setCell w1 _ _ i (fun e => hi (by rw [e]))⟩
 refine ⟨hl, (h.deck.grown hg (fun k e => by have := (hr k e).1; omega)).setCell (by simp; omega) _, zg (xf h.gr hg (fun k e => by have := (hr k e).1; omega)) (by simp) _, (h.pb.grown hg (far _ (by omega))).far (by simp) _, (h.db.grown hg (far _ (by omega))).far (by simp) _, (h.rb.grown hg (far _ (by omega))).far (by simp) _, (h.nb.grown hg (far _ (by omega))).set 1 _, (h.rn.kept hg hnn).kept hg3 (zf fun b e => by have := (h.rn.lt b e).1; omega), ?_, ?_⟩
 ·rw [List.flatMap_append]
  exact (ho.kept hg3 (zf fun b e => by have := hr1 b e; omega)).mono lR |> fun h => by simpa using h
 ·rcases hv with e | e
  ·rw [e]; exact h.ne
  ·rw [e]
   exact (zf fun b eb => by have := (h.rn.lt b eb).2; omega)
theorem yp.node {A1 : Option Addr} {c1 : Nat} {x : Nd} {w1 : World} (h : yp w0 g dmax An nn cn ns Ad nd cd ds w) (ho : w1.ownsRow (w0.heap.size + 4) 74 3 (.slice A1 (nn + 1) c1) (nn + 1) (ns.flatMap Nd.cells ++ x.cells)) (hg : w.grownBy w1 (Value.slice An nn cn).ownBlock)
 (hv : (Value.slice A1 (nn + 1) c1).ownBlock = (Value.slice An nn cn).ownBlock ∨ (Value.slice A1 (nn + 1) c1).ownBlock = some w.heap.size) : yp w0 g dmax A1 (nn + 1) c1 (ns ++ [x]) Ad nd cd ds (w1.setCell ⟨w0.heap.size + 3, 0, none⟩ (.slice A1 (nn + 1) c1)) := by
 have hl := h.lt
 have hz := h.size
 have hr : ∀ b, (Value.slice An nn cn).ownBlock = some b → w0.heap.size + 4 ≤ b ∧ b < w.heap.size := fun b e => h.rn.lt b e
 have hr1 : ∀ b, (Value.slice A1 (nn + 1) c1).ownBlock = some b → w0.heap.size + 4 ≤ b := fun b e => (ho.lt b e).1
 have far : ∀ q, q < w0.heap.size + 4 → some q ≠ (Value.slice An nn cn).ownBlock := fun q hq e => by have := (hr q e.symm).1; omega
 have hnn : (Value.slice Ad nd cd).ownBlock = none ∨ (Value.slice Ad nd cd).ownBlock ≠ (Value.slice An nn cn).ownBlock := by
  cases hv : (Value.slice Ad nd cd).ownBlock with
  | none => exact .inl rfl
  | some b => exact .inr fun e => h.ne.elim (fun h0 => by rw [h0] at e; cases e) (fun h0 => h0 (by rw [hv, e]))
 have hg3 : w1.grownBy (w1.setCell ⟨w0.heap.size + 3, 0, none⟩ (.slice A1 (nn + 1) c1)) (some (w0.heap.size + 3)) := ⟨rfl, rfl, rfl, by simp [World.setCell], fun i _ hi => Below.heap_setCell w1 _ _ i (fun e => hi (by rw [e]))⟩
 refine ⟨hl, (h.deck.grown hg (fun k e => by have := (hr k e).1; omega)).setCell (by simp; omega) _, zg (xf h.gr hg (fun k e => by have := (hr k e).1; omega)) (by simp) _, (h.pb.grown hg (far _ (by omega))).far (by simp) _, (h.db.grown hg (far _ (by omega))).far (by simp) _, (h.rb.grown hg (far _ (by omega))).far (by simp) _, (h.nb.grown hg (far _ (by omega))).set 0 _, ?_, (h.rd.kept hg hnn).kept hg3 (zf fun b e => by have := (h.rd.lt b e).1; omega), ?_⟩
 ·have := ho.kept hg3 (zf fun b e => by have := hr1 b e; omega)
  rw [List.flatMap_append]
  simpa using this
 ·rcases hv with e | e
  ·rw [e]; exact h.ne
  ·rw [e]
   refine .inr fun e2 => ?_
   have := (h.rd.lt _ e2.symm).2
   omega
end
end
section
open Go.RowKit
def xR (l : List Bool) : List Value := l.flatMap fun x => [Value.bool x]
theorem xV (l : List Bool) : xR l = l.map Value.bool := wX _ _
theorem mM (l : List Bool) (i : Nat) (x : Bool) : (xR l).set i (.bool x) = xR (l.set i x) := by rw [xV, xV, List.map_set]
theorem sa (n : Nat) (x : Bool) : List.replicate n (Value.bool x) = xR (List.replicate n x) := by rw [xV, List.map_replicate]
theorem tZ (l : List Bool) : (xR l).length = l.length := by rw [xV, List.length_map]
def xM (w : World) (base : Nat) (A : Option Addr) (n c : Nat) (l : List Bool) : Prop := w.ownsRow base 4 1 (.slice A n c) n (xR l)
section
variable {w w' : World} {base n c i : Nat} {A : Option Addr} {m : List Bool}
theorem xM.len (h : xM w base A n c m) : m.length = n := by have := h.1; rw [tZ] at this; omega
theorem xM.sl (h : xM w base A n c m) : Sl w w.heap.size 1 A n c (xR m) := Sl.of_own h
theorem xM.at (h : xM w base A n c m) (hi : i < n) : ∃ g x, A = some ⟨g, 0, none⟩ ∧ base ≤ g ∧ g < w.heap.size ∧ m[i]? = some x ∧ w.cell? ⟨g, i, none⟩ = some (.bool x) ∧ w.frozen? ⟨g, i, none⟩ = false ∧ ∀ y, xM (w.setCell ⟨g, i, none⟩ (.bool y)) base A n c (m.set i y) := by
 obtain ⟨g, rfl, h1, h2⟩ := rh h (by omega)
 have hl := h.len
 refine ⟨g, m[i]'(by omega), rfl, h1, h2, List.getElem?_eq_getElem _, ?_, h.frozenAt i, fun y => ?_⟩
 ·rw [h.cellAt i (by omega), xV, List.getElem?_map, List.getElem?_eq_getElem (by omega)]; rfl
 ·have := (h.stored i (.bool y)).1
  rwa [mM] at this
theorem xM.later (h : xM w base A n c m) (hb : Below w.heap.size w w') : xM w' base A n c m := xE h hb
end
theorem uT (n : Nat) (hn : n ≤ 1000000) (w : World) : (Instr.makeSlice 71 (.int .i64 (n : Int)) (.int .i64 (n : Int))).run Tryz.prog w = .ok (.slice (some ⟨w.heap.size, 0, none⟩) n n) (w.alloc (.cells (xR (List.replicate n false)).toArray 4)) := by
 rw [run_make_row' 71 4 (.bool false) 1 Tryz.underlying71 (by kernel_rfl) rfl .i64 .i64 n (by omega) (by omega) w]
 congr 3
 apply Array.ext'
 rw [toList_madeCells_one, sa]
theorem sZ {w : World} {base n : Nat} (hb : base ≤ w.heap.size) (hn : n ≤ 1000000) : xM (w.alloc (.cells (xR (List.replicate n false)).toArray 4)) base (some ⟨w.heap.size, 0, none⟩) n n (List.replicate n false) := tq hb (by omega) (by rw [tZ, List.length_replicate])
end
end Go.Proofs.YtepicjpdhpojnaaGreatDoor
