import Derived.Test.YtfaknfmndafllaaGreatDoorW04
import Derived.Test.YtfaknfmndafllaaGreatDoorW00
import Derived.Test.YtfaknfmndafllaaGreatDoorW03
set_option maxRecDepth 100000
set_option maxHeartbeats 1000000
namespace Go.Proofs.YtfaknfmndafllaaGreatDoor
open Go.RowKit
def nm2 (l : List UInt8) (k : Nat) : List UInt8 := l ++ [UInt8.ofNat (48 + k / 10), UInt8.ofNat (48 + k % 10)]
theorem mkname_any (l : ByteArray) (k : Nat) (w : World) (hl : l.size ≤ 1000) (hk : k < 100) : Calls Tryz.prog 36 #[.string l, .int .i64 k] w fun e w' => e = .returned (.string (mkS (nm2 (toL l) k))) ∧ Below w.heap.size w w' := by
 have e1 : (k : Int) / 10 = ((k / 10 : Nat) : Int) := by omega
 have e2 : (k : Int) % 10 = ((k % 10 : Nat) : Int) := by omega
 have h1 : k / 10 < 10 := by omega
 have h2 : k % 10 < 10 := by omega
 have HS : Hid (l ++ mkS [UInt8.ofNat (48 + k / 10), UInt8.ofNat (48 + k % 10)] = mkS (nm2 (toL l) k)) := by
  unfold Hid
  apply toL_inj
  rw [toL_append, toL_mk, toL_mk, nm2]
 generalize k / 10 = p at *
 generalize k % 10 = q at *
 have u1 : ((48 : Int) + (p : Int)) = ((UInt8.ofNat (48 + p)).toNat : Int) := by rw [UInt8.toNat_ofNat']; omega
 have u2 : ((48 : Int) + (q : Int)) = ((UInt8.ofNat (48 + q)).toNat : Int) := by rw [UInt8.toNat_ofNat']; omega
 have HU1 := Lib.hid u1; have HU2 := Lib.hid u2
 clear u1 u2
 have hcv : ∀ W : World, (convert 124 9 (.slice (some ⟨w.heap.size, 0, none⟩) 2 2)).run Tryz.prog (w.alloc (.cells #[.int .u8 (48 + (p : Int)), .int .u8 (48 + (q : Int))] 5)) = .ok (.string (mkS [UInt8.ofNat (48 + p), UInt8.ofNat (48 + q)])) (w.alloc (.cells #[.int .u8 (48 + (p : Int)), .int .u8 (48 + (q : Int))] 5)) := fun _ => by
  refine run_string_of (B := w.heap.size + 1) Tryz.underlying124 Tryz.underlying5 Tryz.underlying9 ?_
  have := Sl.newest (w := w) (cs := #[.int .u8 (48 + (p : Int)), .int .u8 (48 + (q : Int))]) (T := 5) (fr := (0, 0)) (n := 2) (size := 1) rfl rfl (by decide)
  simp only [bytesV, List.flatMap_cons, List.flatMap_nil, List.singleton_append, ← HU1.out, ← HU2.out]
  exact this
 replace hcv := hcv w
 have hz : (mkS [UInt8.ofNat (48 + p), UInt8.ofNat (48 + q)]).size = 2 := by rw [size_mk]; rfl
 generalize mkS [UInt8.ofNat (48 + p), UInt8.ofNat (48 + q)] = S2 at *
 have hcat : ¬ (9223372036854775807 < l.size + S2.size) := by omega
 clear hz
 go_enter Tryz.func36, Tryz.ntmps36
 go_wp2_with fail
 go_ret
 exact ⟨by rw [← HS.out]; rfl, (Below.refl _ _).alloc (Nat.le_refl _) _⟩
end Go.Proofs.YtfaknfmndafllaaGreatDoor
namespace Go.Proofs.YtfaknfmndafllaaGreatDoor
open Go.RowKit
def OnePost (w : World) (g : Nat) (e : Ending) (w' : World) : Prop :=
 ∃ r : Bool, e = .returned (.bool r) ∧ Hid (DeckAt w' g) ∧ Hid (w.grownBy w' (some g)) ∧ Hid (w'.heap.size = w.heap.size)
theorem one_any (g : Nat) (n : Int) (w : World) (hd : DeckAt w g) (hn : n ≤ 9223372036854775807) : Calls Tryz.prog 37 #[.pointer (some ⟨g, 0, none⟩), .int .i64 n] w (OnePost w g) := by
 have HD := Lib.hid hd; clear hd
 go_enter Tryz.func37, Tryz.ntmps37
 go_wp2_with fail
 refine (next_any g n w HD.out hn).mono ?_
 rintro e w1 ⟨r, rfl, h0, h1, h2, h3, h4, h5⟩
 clear h1 h2
 go_wp2_with fail
 go_ret
 exact ⟨_, rfl, h3, h4, h5⟩
end Go.Proofs.YtfaknfmndafllaaGreatDoor
namespace Go.Proofs.YtfaknfmndafllaaGreatDoor
open Go.RowKit
theorem el_node : ElemI Tryz.prog 27 80 3 32 := ElemI.mk' (z := .agg #[.string ⟨#[]⟩, .int .i64 0, .int .i64 0]) Tryz.underlying27 (by kernel_rfl) rfl (by decide)
theorem el_dev : ElemI Tryz.prog 28 68 5 48 := ElemI.mk' (z := .agg #[.string ⟨#[]⟩, .int .i64 0, .int .i64 0, .int .i64 0, .int .i64 0]) Tryz.underlying28 (by kernel_rfl) rfl (by decide)
structure NetSt (w0 : World) (g : Nat) (dmax : Int) (An : Option Addr) (nn cn : Nat) (ns : List Nd) (Ad : Option Addr) (nd cd : Nat) (ds : List Dv) (w : World) : Prop where
 lt : g < w0.heap.size
 deck : DeckAt w g
 gr : w0.grownBy w (some g)
 pb : Blk w w0.heap.size 25 #[.pointer (some ⟨g, 0, none⟩)]
 db : Blk w (w0.heap.size + 1) 3 #[.int .i64 dmax]
 rb : Blk w (w0.heap.size + 2) 30 #[.slice none 0 0, .slice none 0 0]
 nb : Blk w (w0.heap.size + 3) 30 #[.slice An nn cn, .slice Ad nd cd]
 rn : w.ownsRow (w0.heap.size + 4) 80 3 (.slice An nn cn) nn (ns.flatMap Nd.cells)
 rd : w.ownsRow (w0.heap.size + 4) 68 5 (.slice Ad nd cd) nd (ds.flatMap Dv.cells)
 ne : (Value.slice An nn cn).ownBlock = none ∨ (Value.slice An nn cn).ownBlock ≠ (Value.slice Ad nd cd).ownBlock
section
variable {w0 w w' : World} {g : Nat} {dmax : Int} {An Ad : Option Addr} {nn cn nd cd : Nat} {ns : List Nd} {ds : List Dv}
theorem NetSt.size (h : NetSt w0 g dmax An nn cn ns Ad nd cd ds w) : w0.heap.size + 4 ≤ w.heap.size := h.nb.lt
theorem ne_row {v : Value} {q : Nat} (h : ∀ b, v.ownBlock = some b → b ≠ q) : v.ownBlock = none ∨ v.ownBlock ≠ some q := by
 cases hv : v.ownBlock with
 | none => exact .inl rfl
 | some b => exact .inr fun e => by injection e with e; exact h b hv e
theorem NetSt.next (h : NetSt w0 g dmax An nn cn ns Ad nd cd ds w) (hd : DeckAt w' g) (hg : w.grownBy w' (some g)) : NetSt w0 g dmax An nn cn ns Ad nd cd ds w' := by
 have hl := h.lt
 exact ⟨hl, hd, grown_trans h.gr hg, h.pb.grown hg (by simp; omega), h.db.grown hg (by simp; omega), h.rb.grown hg (by simp; omega), h.nb.grown hg (by simp; omega), h.rn.kept hg (ne_row fun b e => by have := (h.rn.lt b e).1; omega), h.rd.kept hg (ne_row fun b e => by have := (h.rd.lt b e).1; omega), h.ne⟩
theorem NetSt.later (h : NetSt w0 g dmax An nn cn ns Ad nd cd ds w) (hb : Below w.heap.size w w') : NetSt w0 g dmax An nn cn ns Ad nd cd ds w' := by
 have hg := grown_of_below hb none
 exact ⟨h.lt, h.deck.below hb h.deck.lt, grown_trans h.gr (grown_of_below hb _), h.pb.below hb h.pb.lt, h.db.below hb h.db.lt, h.rb.below hb h.rb.lt, h.nb.below hb h.nb.lt, h.rn.kept hg (Classical.em _), h.rd.kept hg (Classical.em _), h.ne⟩
theorem NetSt.alloc (h : NetSt w0 g dmax An nn cn ns Ad nd cd ds w) (o : Obj) : NetSt w0 g dmax An nn cn ns Ad nd cd ds (w.alloc o) := h.later ((Below.refl _ _).alloc (Nat.le_refl _) _)
theorem NetSt.drew (h : NetSt w0 g dmax An nn cn ns Ad nd cd ds w) : NetSt w0 g dmax An nn cn ns Ad nd cd ds w.drew := h.later (Below.refl _ _).drew
theorem NetSt.store {q j : Nat} {u : Value} (h : NetSt w0 g dmax An nn cn ns Ad nd cd ds w) (hq : w0.heap.size + 4 ≤ q) (hn : ∀ b, (Value.slice An nn cn).ownBlock = some b → b ≠ q) (hd : ∀ b, (Value.slice Ad nd cd).ownBlock = some b → b ≠ q) : NetSt w0 g dmax An nn cn ns Ad nd cd ds (w.setCell ⟨q, j, none⟩ u) := by
 have hl := h.lt
 have hg : w.grownBy (w.setCell ⟨q, j, none⟩ u) (some q) := ⟨rfl, rfl, rfl, by simp [World.setCell], fun i _ hi => Below.heap_setCell w _ _ i (fun e => hi (by rw [e]))⟩
 exact ⟨hl, h.deck.setCell (by simp; omega) _, grown_set h.gr (by simp; omega) _, h.pb.far (by simp; omega) _, h.db.far (by simp; omega) _, h.rb.far (by simp; omega) _, h.nb.far (by simp; omega) _, h.rn.kept hg (ne_row hn), h.rd.kept hg (ne_row hd), h.ne⟩
theorem NetSt.dev {A1 : Option Addr} {c1 : Nat} {x : Dv} {w1 : World} (h : NetSt w0 g dmax An nn cn ns Ad nd cd ds w) (ho : w1.ownsRow (w0.heap.size + 4) 68 5 (.slice A1 (nd + 1) c1) (nd + 1) (ds.flatMap Dv.cells ++ x.cells)) (hg : w.grownBy w1 (Value.slice Ad nd cd).ownBlock)
 (hv : (Value.slice A1 (nd + 1) c1).ownBlock = (Value.slice Ad nd cd).ownBlock ∨ (Value.slice A1 (nd + 1) c1).ownBlock = some w.heap.size) : NetSt w0 g dmax An nn cn ns A1 (nd + 1) c1 (ds ++ [x]) (w1.setCell ⟨w0.heap.size + 3, 1, none⟩ (.slice A1 (nd + 1) c1)) := by
 have hl := h.lt
 have hz := h.size
 have hr : ∀ b, (Value.slice Ad nd cd).ownBlock = some b → w0.heap.size + 4 ≤ b ∧ b < w.heap.size := fun b e => h.rd.lt b e
 have hr1 : ∀ b, (Value.slice A1 (nd + 1) c1).ownBlock = some b → w0.heap.size + 4 ≤ b := fun b e => (ho.lt b e).1
 have far : ∀ q, q < w0.heap.size + 4 → some q ≠ (Value.slice Ad nd cd).ownBlock := fun q hq e => by have := (hr q e.symm).1; omega
 have hnn : (Value.slice An nn cn).ownBlock = none ∨ (Value.slice An nn cn).ownBlock ≠ (Value.slice Ad nd cd).ownBlock := h.ne
 have hg3 : w1.grownBy (w1.setCell ⟨w0.heap.size + 3, 1, none⟩ (.slice A1 (nd + 1) c1)) (some (w0.heap.size + 3)) := ⟨rfl, rfl, rfl, by simp [World.setCell], fun i _ hi => Below.heap_setCell w1 _ _ i (fun e => hi (by rw [e]))⟩
 refine ⟨hl, (h.deck.grown hg (fun k e => by have := (hr k e).1; omega)).setCell (by simp; omega) _, grown_set (grown_new h.gr hg (fun k e => by have := (hr k e).1; omega)) (by simp) _, (h.pb.grown hg (far _ (by omega))).far (by simp) _, (h.db.grown hg (far _ (by omega))).far (by simp) _, (h.rb.grown hg (far _ (by omega))).far (by simp) _, (h.nb.grown hg (far _ (by omega))).set 1 _, (h.rn.kept hg hnn).kept hg3 (ne_row fun b e => by have := (h.rn.lt b e).1; omega), ?_, ?_⟩
 ·rw [List.flatMap_append]
  exact (ho.kept hg3 (ne_row fun b e => by have := hr1 b e; omega)).mono (Nat.le_refl _) |> fun h => by simpa using h
 ·rcases hv with e | e
  ·rw [e]; exact h.ne
  ·rw [e]
   exact (ne_row fun b eb => by have := (h.rn.lt b eb).2; omega)
theorem NetSt.node {A1 : Option Addr} {c1 : Nat} {x : Nd} {w1 : World} (h : NetSt w0 g dmax An nn cn ns Ad nd cd ds w) (ho : w1.ownsRow (w0.heap.size + 4) 80 3 (.slice A1 (nn + 1) c1) (nn + 1) (ns.flatMap Nd.cells ++ x.cells)) (hg : w.grownBy w1 (Value.slice An nn cn).ownBlock)
 (hv : (Value.slice A1 (nn + 1) c1).ownBlock = (Value.slice An nn cn).ownBlock ∨ (Value.slice A1 (nn + 1) c1).ownBlock = some w.heap.size) : NetSt w0 g dmax A1 (nn + 1) c1 (ns ++ [x]) Ad nd cd ds (w1.setCell ⟨w0.heap.size + 3, 0, none⟩ (.slice A1 (nn + 1) c1)) := by
 have hl := h.lt
 have hz := h.size
 have hr : ∀ b, (Value.slice An nn cn).ownBlock = some b → w0.heap.size + 4 ≤ b ∧ b < w.heap.size := fun b e => h.rn.lt b e
 have hr1 : ∀ b, (Value.slice A1 (nn + 1) c1).ownBlock = some b → w0.heap.size + 4 ≤ b := fun b e => (ho.lt b e).1
 have far : ∀ q, q < w0.heap.size + 4 → some q ≠ (Value.slice An nn cn).ownBlock := fun q hq e => by have := (hr q e.symm).1; omega
 have hnn : (Value.slice Ad nd cd).ownBlock = none ∨ (Value.slice Ad nd cd).ownBlock ≠ (Value.slice An nn cn).ownBlock := by
  cases hv : (Value.slice Ad nd cd).ownBlock with
  | none => exact .inl rfl
  | some b => exact .inr fun e => h.ne.elim (fun h0 => by rw [h0] at e; cases e) (fun h0 => h0 (by rw [hv, e]))
 have hg3 : w1.grownBy (w1.setCell ⟨w0.heap.size + 3, 0, none⟩ (.slice A1 (nn + 1) c1)) (some (w0.heap.size + 3)) := ⟨rfl, rfl, rfl, by simp [World.setCell], fun i _ hi => Below.heap_setCell w1 _ _ i (fun e => hi (by rw [e]))⟩
 refine ⟨hl, (h.deck.grown hg (fun k e => by have := (hr k e).1; omega)).setCell (by simp; omega) _, grown_set (grown_new h.gr hg (fun k e => by have := (hr k e).1; omega)) (by simp) _, (h.pb.grown hg (far _ (by omega))).far (by simp) _, (h.db.grown hg (far _ (by omega))).far (by simp) _, (h.rb.grown hg (far _ (by omega))).far (by simp) _, (h.nb.grown hg (far _ (by omega))).set 0 _, ?_, (h.rd.kept hg hnn).kept hg3 (ne_row fun b e => by have := (h.rd.lt b e).1; omega), ?_⟩
 ·have := ho.kept hg3 (ne_row fun b e => by have := hr1 b e; omega)
  rw [List.flatMap_append]
  simpa using this
 ·rcases hv with e | e
  ·rw [e]; exact h.ne
  ·rw [e]
   refine .inr fun e2 => ?_
   have := (h.rd.lt _ e2.symm).2
   omega
end
end Go.Proofs.YtfaknfmndafllaaGreatDoor
namespace Go.Proofs.YtfaknfmndafllaaGreatDoor
open Go.RowKit
def boolsV (l : List Bool) : List Value := l.flatMap fun x => [Value.bool x]
theorem boolsV_map (l : List Bool) : boolsV l = l.map Value.bool := flat1_map _ _
theorem boolsV_set (l : List Bool) (i : Nat) (x : Bool) : (boolsV l).set i (.bool x) = boolsV (l.set i x) := by rw [boolsV_map, boolsV_map, List.map_set]
theorem boolsV_replicate (n : Nat) (x : Bool) : List.replicate n (Value.bool x) = boolsV (List.replicate n x) := by rw [boolsV_map, List.map_replicate]
theorem boolsV_len (l : List Bool) : (boolsV l).length = l.length := by rw [boolsV_map, List.length_map]
def BoolsO (w : World) (base : Nat) (A : Option Addr) (n c : Nat) (l : List Bool) : Prop := w.ownsRow base 4 1 (.slice A n c) n (boolsV l)
section
variable {w w' : World} {base n c i : Nat} {A : Option Addr} {m : List Bool}
theorem BoolsO.len (h : BoolsO w base A n c m) : m.length = n := by have := h.1; rw [boolsV_len] at this; omega
theorem BoolsO.sl (h : BoolsO w base A n c m) : Sl w w.heap.size 1 A n c (boolsV m) := Sl.of_own h
theorem BoolsO.at (h : BoolsO w base A n c m) (hi : i < n) : ∃ g x, A = some ⟨g, 0, none⟩ ∧ base ≤ g ∧ g < w.heap.size ∧ m[i]? = some x ∧ w.cell? ⟨g, i, none⟩ = some (.bool x) ∧ w.frozen? ⟨g, i, none⟩ = false ∧ ∀ y, BoolsO (w.setCell ⟨g, i, none⟩ (.bool y)) base A n c (m.set i y) := by
 obtain ⟨g, rfl, h1, h2⟩ := own_some h (by omega)
 have hl := h.len
 refine ⟨g, m[i]'(by omega), rfl, h1, h2, List.getElem?_eq_getElem _, ?_, h.frozenAt i, fun y => ?_⟩
 ·rw [h.cellAt i (by omega), boolsV_map, List.getElem?_map, List.getElem?_eq_getElem (by omega)]; rfl
 ·have := (h.stored i (.bool y)).1
  rwa [boolsV_set] at this
theorem BoolsO.later (h : BoolsO w base A n c m) (hb : Below w.heap.size w w') : BoolsO w' base A n c m := own_later h hb
end
theorem run_mk_bool (n : Nat) (hn : n ≤ 1000000) (w : World) : (Instr.makeSlice 131 (.int .i64 (n : Int)) (.int .i64 (n : Int))).run Tryz.prog w = .ok (.slice (some ⟨w.heap.size, 0, none⟩) n n) (w.alloc (.cells (boolsV (List.replicate n false)).toArray 4)) := by
 rw [run_make_row' 131 4 (.bool false) 1 Tryz.underlying131 (by kernel_rfl) rfl .i64 .i64 n (by omega) (by omega) w]
 congr 3
 apply Array.ext'
 rw [toList_madeCells_one, boolsV_replicate]
theorem bools_new {w : World} {base n : Nat} (hb : base ≤ w.heap.size) (hn : n ≤ 1000000) : BoolsO (w.alloc (.cells (boolsV (List.replicate n false)).toArray 4)) base (some ⟨w.heap.size, 0, none⟩) n n (List.replicate n false) := own_new hb (by omega) (by rw [boolsV_len, List.length_replicate])
end Go.Proofs.YtfaknfmndafllaaGreatDoor
