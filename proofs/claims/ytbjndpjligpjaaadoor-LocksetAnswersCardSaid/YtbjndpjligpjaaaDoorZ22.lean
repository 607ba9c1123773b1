import Derived.Test.YtbjndpjligpjaaaDoorZ21
import Derived.Test.YtbjndpjligpjaaaDoorZ04
import Derived.Test.YtbjndpjligpjaaaDoorZ07
import Derived.Deep.RegionLaw
import Derived.Deep.RegionWith
import Derived.Deep.DrawnRows
import Derived.Deep.DeepCutAuto
/-
  The statements' maker of networks: its state while it works.
-/
namespace Go.Proofs.YtbjndpjligpjaaaDoor
open Go.RowKit
theorem el_node : ElemI Tryd.prog 24 55 3 32 := ElemI.mk' (z := .agg #[.string ⟨#[]⟩, .int .i64 0, .int .i64 0]) Tryd.underlying24 (by kernel_rfl) rfl (by decide)
theorem el_dev : ElemI Tryd.prog 25 57 5 48 := ElemI.mk' (z := .agg #[.string ⟨#[]⟩, .int .i64 0, .int .i64 0, .int .i64 0, .int .i64 0]) Tryd.underlying25 (by kernel_rfl) rfl (by decide)

/-- The boxes of the deck's pointer, of the bound, of the result and of the network; the two rows. -/
structure NetSt (w0 : World) (g : Nat) (dmax : Int) (An : Option Addr) (nn cn : Nat) (ns : List Nd) (Ad : Option Addr) (nd cd : Nat) (ds : List Dv) (w : World) : Prop where
  lt : g < w0.heap.size
  deck : DeckAt w g
  gr : w0.grownBy w (some g)
  pb : Blk w w0.heap.size 33 #[.pointer (some ⟨g, 0, none⟩)]
  db : Blk w (w0.heap.size + 1) 3 #[.int .i64 dmax]
  rb : Blk w (w0.heap.size + 2) 27 #[.slice none 0 0, .slice none 0 0]
  nb : Blk w (w0.heap.size + 3) 27 #[.slice An nn cn, .slice Ad nd cd]
  rn : w.ownsRow (w0.heap.size + 4) 55 3 (.slice An nn cn) nn (ns.flatMap Nd.cells)
  rd : w.ownsRow (w0.heap.size + 4) 57 5 (.slice Ad nd cd) nd (ds.flatMap Dv.cells)
  ne : (Value.slice An nn cn).ownBlock = none ∨ (Value.slice An nn cn).ownBlock ≠ (Value.slice Ad nd cd).ownBlock
section
variable {w0 w w' : World} {g : Nat} {dmax : Int} {An Ad : Option Addr} {nn cn nd cd : Nat} {ns : List Nd} {ds : List Dv}
theorem NetSt.size (h : NetSt w0 g dmax An nn cn ns Ad nd cd ds w) : w0.heap.size + 4 ≤ w.heap.size := h.nb.lt
theorem ne_row {v : Value} {q : Nat} (h : ∀ b, v.ownBlock = some b → b ≠ q) : v.ownBlock = none ∨ v.ownBlock ≠ some q := by
  cases hv : v.ownBlock with
  | none => exact .inl rfl
  | some b => exact .inr fun e => by injection e with e; exact h b hv e
theorem NetSt.next (h : NetSt w0 g dmax An nn cn ns Ad nd cd ds w) (hd : DeckAt w' g) (hg : w.grownBy w' (some g)) : NetSt w0 g dmax An nn cn ns Ad nd cd ds w' := by
  have hl := h.lt
  exact ⟨hl, hd, grown_trans h.gr hg, h.pb.grown hg (by simp; omega), h.db.grown hg (by simp; omega), h.rb.grown hg (by simp; omega), h.nb.grown hg (by simp; omega), h.rn.kept hg (ne_row fun b e => by have := (h.rn.lt b e).1; omega), h.rd.kept hg (ne_row fun b e => by have := (h.rd.lt b e).1; omega), h.ne⟩
theorem NetSt.later (h : NetSt w0 g dmax An nn cn ns Ad nd cd ds w) (hb : Below w.heap.size w w') : NetSt w0 g dmax An nn cn ns Ad nd cd ds w' := by
  have hg := grown_of_below hb none
  exact ⟨h.lt, h.deck.below hb h.deck.lt, grown_trans h.gr (grown_of_below hb _), h.pb.below hb h.pb.lt, h.db.below hb h.db.lt, h.rb.below hb h.rb.lt, h.nb.below hb h.nb.lt, h.rn.kept hg (Classical.em _), h.rd.kept hg (Classical.em _), h.ne⟩
theorem NetSt.alloc (h : NetSt w0 g dmax An nn cn ns Ad nd cd ds w) (o : Obj) : NetSt w0 g dmax An nn cn ns Ad nd cd ds (w.alloc o) := h.later ((Below.refl _ _).alloc (Nat.le_refl _) _)
theorem NetSt.drew (h : NetSt w0 g dmax An nn cn ns Ad nd cd ds w) : NetSt w0 g dmax An nn cn ns Ad nd cd ds w.drew := h.later (Below.refl _ _).drew
/-- A store into a block of the call's own that is none of these. -/
theorem NetSt.store {q j : Nat} {u : Value} (h : NetSt w0 g dmax An nn cn ns Ad nd cd ds w) (hq : w0.heap.size + 4 ≤ q) (hn : ∀ b, (Value.slice An nn cn).ownBlock = some b → b ≠ q) (hd : ∀ b, (Value.slice Ad nd cd).ownBlock = some b → b ≠ q) : NetSt w0 g dmax An nn cn ns Ad nd cd ds (w.setCell ⟨q, j, none⟩ u) := by
  have hl := h.lt
  have hg : w.grownBy (w.setCell ⟨q, j, none⟩ u) (some q) := ⟨rfl, rfl, rfl, by simp [World.setCell], fun i _ hi => Below.heap_setCell w _ _ i (fun e => hi (by rw [e]))⟩
  exact ⟨hl, h.deck.setCell (by simp; omega) _, grown_set h.gr (by simp; omega) _, h.pb.far (by simp; omega) _, h.db.far (by simp; omega) _, h.rb.far (by simp; omega) _, h.nb.far (by simp; omega) _, h.rn.kept hg (ne_row hn), h.rd.kept hg (ne_row hd), h.ne⟩
/-- A device is appended, and the network's field set to the new slice. -/
theorem NetSt.dev {A1 : Option Addr} {c1 : Nat} {x : Dv} {w1 : World} (h : NetSt w0 g dmax An nn cn ns Ad nd cd ds w) (ho : w1.ownsRow (w0.heap.size + 4) 57 5 (.slice A1 (nd + 1) c1) (nd + 1) (ds.flatMap Dv.cells ++ x.cells)) (hg : w.grownBy w1 (Value.slice Ad nd cd).ownBlock)
    (hv : (Value.slice A1 (nd + 1) c1).ownBlock = (Value.slice Ad nd cd).ownBlock ∨ (Value.slice A1 (nd + 1) c1).ownBlock = some w.heap.size) : NetSt w0 g dmax An nn cn ns A1 (nd + 1) c1 (ds ++ [x]) (w1.setCell ⟨w0.heap.size + 3, 1, none⟩ (.slice A1 (nd + 1) c1)) := by
  have hl := h.lt
  have hz := h.size
  have hr : ∀ b, (Value.slice Ad nd cd).ownBlock = some b → w0.heap.size + 4 ≤ b ∧ b < w.heap.size := fun b e => h.rd.lt b e
  have hr1 : ∀ b, (Value.slice A1 (nd + 1) c1).ownBlock = some b → w0.heap.size + 4 ≤ b := fun b e => (ho.lt b e).1
  have far : ∀ q, q < w0.heap.size + 4 → some q ≠ (Value.slice Ad nd cd).ownBlock := fun q hq e => by have := (hr q e.symm).1; omega
  have hnn : (Value.slice An nn cn).ownBlock = none ∨ (Value.slice An nn cn).ownBlock ≠ (Value.slice Ad nd cd).ownBlock := h.ne
  have hg3 : w1.grownBy (w1.setCell ⟨w0.heap.size + 3, 1, none⟩ (.slice A1 (nd + 1) c1)) (some (w0.heap.size + 3)) := ⟨rfl, rfl, rfl, by simp [World.setCell], fun i _ hi => Below.heap_setCell w1 _ _ i (fun e => hi (by rw [e]))⟩
  refine ⟨hl, (h.deck.grown hg (fun k e => by have := (hr k e).1; omega)).setCell (by simp; omega) _, grown_set (grown_new h.gr hg (fun k e => by have := (hr k e).1; omega)) (by simp) _, (h.pb.grown hg (far _ (by omega))).far (by simp) _, (h.db.grown hg (far _ (by omega))).far (by simp) _, (h.rb.grown hg (far _ (by omega))).far (by simp) _, (h.nb.grown hg (far _ (by omega))).set 1 _, (h.rn.kept hg hnn).kept hg3 (ne_row fun b e => by have := (h.rn.lt b e).1; omega), ?_, ?_⟩
  · rw [List.flatMap_append]
    exact (ho.kept hg3 (ne_row fun b e => by have := hr1 b e; omega)).mono (Nat.le_refl _) |> fun h => by simpa using h
  · rcases hv with e | e
    · rw [e]; exact h.ne
    · rw [e]
      exact (ne_row fun b eb => by have := (h.rn.lt b eb).2; omega)
/-- A node is appended. -/
theorem NetSt.node {A1 : Option Addr} {c1 : Nat} {x : Nd} {w1 : World} (h : NetSt w0 g dmax An nn cn ns Ad nd cd ds w) (ho : w1.ownsRow (w0.heap.size + 4) 55 3 (.slice A1 (nn + 1) c1) (nn + 1) (ns.flatMap Nd.cells ++ x.cells)) (hg : w.grownBy w1 (Value.slice An nn cn).ownBlock)
    (hv : (Value.slice A1 (nn + 1) c1).ownBlock = (Value.slice An nn cn).ownBlock ∨ (Value.slice A1 (nn + 1) c1).ownBlock = some w.heap.size) : NetSt w0 g dmax A1 (nn + 1) c1 (ns ++ [x]) Ad nd cd ds (w1.setCell ⟨w0.heap.size + 3, 0, none⟩ (.slice A1 (nn + 1) c1)) := by
  have hl := h.lt
  have hz := h.size
  have hr : ∀ b, (Value.slice An nn cn).ownBlock = some b → w0.heap.size + 4 ≤ b ∧ b < w.heap.size := fun b e => h.rn.lt b e
  have hr1 : ∀ b, (Value.slice A1 (nn + 1) c1).ownBlock = some b → w0.heap.size + 4 ≤ b := fun b e => (ho.lt b e).1
  have far : ∀ q, q < w0.heap.size + 4 → some q ≠ (Value.slice An nn cn).ownBlock := fun q hq e => by have := (hr q e.symm).1; omega
  have hnn : (Value.slice Ad nd cd).ownBlock = none ∨ (Value.slice Ad nd cd).ownBlock ≠ (Value.slice An nn cn).ownBlock := by
    cases hv : (Value.slice Ad nd cd).ownBlock with
    | none => exact .inl rfl
    | some b => exact .inr fun e => h.ne.elim (fun h0 => by rw [h0] at e; cases e) (fun h0 => h0 (by rw [hv, e]))
  have hg3 : w1.grownBy (w1.setCell ⟨w0.heap.size + 3, 0, none⟩ (.slice A1 (nn + 1) c1)) (some (w0.heap.size + 3)) := ⟨rfl, rfl, rfl, by simp [World.setCell], fun i _ hi => Below.heap_setCell w1 _ _ i (fun e => hi (by rw [e]))⟩
  refine ⟨hl, (h.deck.grown hg (fun k e => by have := (hr k e).1; omega)).setCell (by simp; omega) _, grown_set (grown_new h.gr hg (fun k e => by have := (hr k e).1; omega)) (by simp) _, (h.pb.grown hg (far _ (by omega))).far (by simp) _, (h.db.grown hg (far _ (by omega))).far (by simp) _, (h.rb.grown hg (far _ (by omega))).far (by simp) _, (h.nb.grown hg (far _ (by omega))).set 0 _, ?_, (h.rd.kept hg hnn).kept hg3 (ne_row fun b e => by have := (h.rd.lt b e).1; omega), ?_⟩
  · have := ho.kept hg3 (ne_row fun b e => by have := hr1 b e; omega)
    rw [List.flatMap_append]
    simpa using this
  · rcases hv with e | e
    · rw [e]; exact h.ne
    · rw [e]
      refine .inr fun e2 => ?_
      have := (h.rd.lt _ e2.symm).2
      omega
end
end Go.Proofs.YtbjndpjligpjaaaDoor
/-
  The statements' maker of networks: walk of its closure 'add'.
-/
namespace Go.Proofs.YtbjndpjligpjaaaDoor
open Go.RowKit
attribute [local go_sem ↓] Go.wp_at_zero Go.wp_at_succ
theorem blk_second (w : World) (o : Obj) (T : TypeId) (cs : Array Value) : Blk ((w.alloc o).alloc (.cells cs T)) (w.heap.size + 1) T cs := by
  have := Blk.new (w.alloc o) T cs
  rwa [World.size_alloc] at this
def letterT (k : Nat) : List UInt8 := [[], [76], [81], [68], [69], [83], [71]].getD k []
def AddPost (w0 : World) (g : Nat) (dmax : Int) (An : Option Addr) (nn cn : Nat) (ns : List Nd) (nd : Nat) (ds : List Dv) (kind : Nat) (a b : Int) (e : Ending) (w' : World) : Prop :=
  e = .returned (.tuple #[]) ∧ ∃ (Ad' : Option Addr) (nd' cd' : Nat) (ds' : List Dv), NetSt w0 g dmax An nn cn ns Ad' nd' cd' ds' w' ∧ (dmax ≤ nd → nd' = nd ∧ ds' = ds) ∧ (nd < dmax → nd' = nd + 1 ∧ ∃ comp : Int, 0 ≤ comp ∧ comp ≤ 2 ∧ ds' = ds ++ [⟨mkS (nm2 (letterT kind) nd), kind, a, b, comp⟩])
def AddCut (w0 : World) (g : Nat) (dmax : Int) (An : Option Addr) (nn cn : Nat) (ns : List Nd) (Ad : Option Addr) (nd cd : Nat) (ds : List Dv) (kind : Nat) (a b : Int) (s9 : Value) (wc : World) : Prop :=
  ∃ b9 : Nat, s9 = .pointer (some ⟨b9, 0, none⟩) ∧ NetSt w0 g dmax An nn cn ns Ad nd cd ds wc ∧ Blk wc b9 57 #[.string (mkS (nm2 (letterT kind) nd)), .int .i64 kind, .int .i64 a, .int .i64 b, .int .i64 0] ∧ w0.heap.size + 4 ≤ b9 ∧ (∀ q, (Value.slice An nn cn).ownBlock = some q → q ≠ b9) ∧ (∀ q, (Value.slice Ad nd cd).ownBlock = some q → q ≠ b9)
/-- While the region works: the state stands, and memory has not shrunk. -/
def AddS (w0 : World) (g : Nat) (dmax : Int) (An : Option Addr) (nn cn : Nat) (ns : List Nd) (Ad : Option Addr) (nd cd : Nat) (ds : List Dv) (w W : World) : Prop := NetSt w0 g dmax An nn cn ns Ad nd cd ds W ∧ w.heap.size ≤ W.heap.size
/-- .. and the table of letters lies at block t. -/
def AddT (w0 : World) (g : Nat) (dmax : Int) (An : Option Addr) (nn cn : Nat) (ns : List Nd) (Ad : Option Addr) (nd cd : Nat) (ds : List Dv) (w : World) (LT : ByteArray) (kind t : Nat) (W : World) : Prop := AddS w0 g dmax An nn cn ns Ad nd cd ds w W ∧ W.cell? ⟨t, kind, none⟩ = some (.string LT)
/-- .. and the new box lies at block q. -/
def AddB (w0 : World) (g : Nat) (dmax : Int) (An : Option Addr) (nn cn : Nat) (ns : List Nd) (Ad : Option Addr) (nd cd : Nat) (ds : List Dv) (w : World) (LT : ByteArray) (kind t q : Nat) (W : World) : Prop := AddT w0 g dmax An nn cn ns Ad nd cd ds w LT kind t W ∧ Blk W q 57 #[.string ⟨#[]⟩, .int .i64 0, .int .i64 0, .int .i64 0, .int .i64 0]
section
variable {w0 w W W' : World} {g : Nat} {dmax : Int} {An Ad : Option Addr} {nn cn nd cd kind t : Nat} {ns : List Nd} {ds : List Dv} {LT : ByteArray}
theorem addS_alloc (h : AddS w0 g dmax An nn cn ns Ad nd cd ds w W) (o : Obj) : AddS w0 g dmax An nn cn ns Ad nd cd ds w (W.alloc o) := ⟨h.1.alloc o, by have := h.2; simp; omega⟩
theorem addS_later (h : AddS w0 g dmax An nn cn ns Ad nd cd ds w W) (hb : Below W.heap.size W W') : AddS w0 g dmax An nn cn ns Ad nd cd ds w W' := ⟨h.1.later hb, Nat.le_trans h.2 hb.size⟩
theorem addT_later (h : AddT w0 g dmax An nn cn ns Ad nd cd ds w LT kind t W) (hb : Below W.heap.size W W') : AddT w0 g dmax An nn cn ns Ad nd cd ds w LT kind t W' := ⟨addS_later h.1 hb, (hb.cell (p := ⟨t, kind, none⟩) (cell_lt h.2)).trans h.2⟩
theorem addT_alloc (h : AddT w0 g dmax An nn cn ns Ad nd cd ds w LT kind t W) (o : Obj) : AddT w0 g dmax An nn cn ns Ad nd cd ds w LT kind t (W.alloc o) := addT_later h ((Below.refl _ _).alloc (Nat.le_refl _) _)
theorem addB_later {q : Nat} (h : AddB w0 g dmax An nn cn ns Ad nd cd ds w LT kind t q W) (hb : Below W.heap.size W W') : AddB w0 g dmax An nn cn ns Ad nd cd ds w LT kind t q W' := ⟨addT_later h.1 hb, h.2.below hb h.2.lt⟩
theorem addCut_new {a b : Int} (hT : toL LT = letterT kind) (h : AddS w0 g dmax An nn cn ns Ad nd cd ds w W) (hn : ∀ b, (Value.slice An nn cn).ownBlock = some b → b < w.heap.size) (hd : ∀ b, (Value.slice Ad nd cd).ownBlock = some b → b < w.heap.size) :
    AddCut w0 g dmax An nn cn ns Ad nd cd ds kind a b (.pointer (some ⟨W.heap.size, 0, none⟩)) (W.alloc (.cells #[.string (mkS (nm2 (toL LT) nd)), .int .i64 kind, .int .i64 a, .int .i64 b, .int .i64 0] 57)) := by
  have := h.2
  have hz := h.1.size
  rw [hT]
  exact ⟨W.heap.size, rfl, h.1.alloc _, Blk.new _ _ _, hz, fun q e => by have := hn q e; omega, fun q e => by have := hd q e; omega⟩
theorem addCut_of {a b : Int} {q : Nat} (hT : toL LT = letterT kind) (h : AddS w0 g dmax An nn cn ns Ad nd cd ds w W) (hB : Blk W q 57 #[.string ⟨#[]⟩, .int .i64 0, .int .i64 0, .int .i64 0, .int .i64 0]) (hq : w.heap.size ≤ q) (hw : w0.heap.size + 4 ≤ w.heap.size) (hn : ∀ b, (Value.slice An nn cn).ownBlock = some b → b < w.heap.size) (hd : ∀ b, (Value.slice Ad nd cd).ownBlock = some b → b < w.heap.size) :
    AddCut w0 g dmax An nn cn ns Ad nd cd ds kind a b (.pointer (some ⟨q, 0, none⟩)) (((((W.setCell ⟨q, 0, none⟩ (.string (mkS (nm2 (toL LT) nd)))).setCell ⟨q, 1, none⟩ (.int .i64 kind)).setCell ⟨q, 2, none⟩ (.int .i64 a)).setCell ⟨q, 3, none⟩ (.int .i64 b)).setCell ⟨q, 4, none⟩ (.int .i64 0)) := by
  have e1 : ∀ r, (Value.slice An nn cn).ownBlock = some r → r ≠ q := fun r e => by have := hn r e; omega
  have e2 : ∀ r, (Value.slice Ad nd cd).ownBlock = some r → r ≠ q := fun r e => by have := hd r e; omega
  have hq4 : w0.heap.size + 4 ≤ q := by omega
  rw [hT]
  exact ⟨q, rfl, ((((h.1.store hq4 e1 e2).store hq4 e1 e2).store hq4 e1 e2).store hq4 e1 e2).store hq4 e1 e2, ((((hB.set 0 _).set 1 _).set 2 _).set 3 _).set 4 _, hq4, e1, e2⟩
theorem NetSt.nb_row (h : NetSt w0 g dmax An nn cn ns Ad nd cd ds W) (hg : W.grownBy W' (Value.slice Ad nd cd).ownBlock) : Blk W' (w0.heap.size + 3) 27 #[.slice An nn cn, .slice Ad nd cd] := h.nb.grown hg (fun e => by have := (h.rd.lt _ e.symm).1; omega)
end
set_option maxRecDepth 100000 in
set_option maxHeartbeats 4000000 in
theorem add_any (w0 : World) (g : Nat) (dmax : Int) (An : Option Addr) (nn cn : Nat) (ns : List Nd) (Ad : Option Addr) (nd cd : Nat) (ds : List Dv) (kind : Nat) (a b : Int) (w : World) (h : NetSt w0 g dmax An nn cn ns Ad nd cd ds w) (hk : 1 ≤ kind ∧ kind ≤ 6) (hnd : nd < 100) :
    Calls Tryd.prog 31 #[.int .i64 kind, .int .i64 a, .int .i64 b, .pointer (some ⟨w0.heap.size + 3, 0, none⟩), .pointer (some ⟨w0.heap.size + 1, 0, none⟩), .pointer (some ⟨w0.heap.size, 0, none⟩)] w (AddPost w0 g dmax An nn cn ns nd ds kind a b) := by
  have H := Lib.hid h; clear h
  have k1 : w.cell? ⟨w0.heap.size + 3, 1, none⟩ = some (.slice Ad nd cd) := H.out.nb.cell 1
  have k2 : w.cell? ⟨w0.heap.size + 1, 0, none⟩ = some (.int .i64 dmax) := H.out.db.cell 0
  by_cases h1 : dmax ≤ nd
  · have q1 : decide (dmax ≤ (nd : Int)) = true := by simpa using h1
    go_enter Tryd.func31, Tryd.ntmps31
    go_wp2_with fail
    go_end0
    exact ⟨rfl, Ad, nd, cd, ds, H.out, fun _ => ⟨rfl, rfl⟩, fun h => absurd h (by omega)⟩
  have q1 : decide (dmax ≤ (nd : Int)) = false := by simpa using h1
  go_enter Tryd.func31, Tryd.ntmps31
  go_upto_region 1 with (fail)
  clear q1 k2
  have hsz := H.out.size
  have HRN := Lib.hid (fun b e => (H.out.rn.lt b e).2)
  have HRD := Lib.hid (fun b e => (H.out.rd.lt b e).2)
  have hb3 : w0.heap.size + 3 < w.heap.size := by omega
  have hnd' : (nd : Int) ≤ 9223372036854775807 := by omega
  go_cut [9] (fun s9 wc => AddCut w0 g dmax An nn cn ns Ad nd cd ds kind a b s9 wc)
  case first =>
    have hlet : (#[.string ⟨#[]⟩, .string ⟨#[76]⟩, .string ⟨#[81]⟩, .string ⟨#[68]⟩, .string ⟨#[69]⟩, .string ⟨#[83]⟩, .string ⟨#[71]⟩] : Array Value)[kind]? = some (.string (mkS (letterT kind))) := by
      rcases (show kind = 1 ∨ kind = 2 ∨ kind = 3 ∨ kind = 4 ∨ kind = 5 ∨ kind = 6 by omega) with rfl | rfl | rfl | rfl | rfl | rfl <;> rfl
    have hlz : (mkS (letterT kind)).size ≤ 1000 := by
      rcases (show kind = 1 ∨ kind = 2 ∨ kind = 3 ∨ kind = 4 ∨ kind = 5 ∨ kind = 6 by omega) with rfl | rfl | rfl | rfl | rfl | rfl <;> decide
    have HT : Hid (toL (mkS (letterT kind)) = letterT kind) := toL_mk _
    generalize mkS (letterT kind) = LT at *
    have hk7 : (kind : Int) < 7 := by omega
    refine wp_region_J (S := AddS w0 g dmax An nn cn ns Ad nd cd ds w) (J := [13]) (by kernel_rfl) ⟨H.out.drew, Nat.le_refl _⟩ (fun hHeld => ?_)
    refine wpAnyJ_take (i := 1) (d := some 16) (v := ?_) rfl rfl (by kernel_rfl) (by kernel_rfl) (by kernel_rfl) (by kernel_rfl) (by kernel_rfl) (fun _ _ _ h => h) (Or.inl ⟨by rfl, ?_⟩) hHeld ?_
    rotate_left
    · (intro W hSw; clear hSw; go_simp; try with_reducible rfl)
    try simp only [Act.put, List.setIfInBounds_toArray, List.set_cons_zero, List.set_cons_succ]
    refine wpAnyJ_take (i := 4) (d := some 19) (v := ?_) rfl rfl (by kernel_rfl) (by kernel_rfl) (by kernel_rfl) (by kernel_rfl) (by kernel_rfl) (fun _ _ _ h => h) (Or.inl ⟨by rfl, ?_⟩) hHeld ?_
    rotate_left
    · (intro W hSw; clear hSw; go_simp; try with_reducible rfl)
    try simp only [Act.put, List.setIfInBounds_toArray, List.set_cons_zero, List.set_cons_succ]
    refine wpAnyJ_take (i := 5) (d := some 20) (v := ?_) rfl rfl (by kernel_rfl) (by kernel_rfl) (by kernel_rfl) (by kernel_rfl) (by kernel_rfl) (fun _ _ _ h => h) (Or.inl ⟨by rfl, ?_⟩) hHeld ?_
    rotate_left
    · (intro W hSw; have k1 : W.cell? ⟨w0.heap.size + 3, 1, none⟩ = some (.slice Ad nd cd) := hSw.1.nb.cell 1; clear hSw; go_simp; try with_reducible rfl)
    try simp only [Act.put, List.setIfInBounds_toArray, List.set_cons_zero, List.set_cons_succ]
    refine wpAnyJ_take (i := 6) (d := some 21) (v := ?_) rfl rfl (by kernel_rfl) (by kernel_rfl) (by kernel_rfl) (by kernel_rfl) (by kernel_rfl) (fun _ _ _ h => h) (Or.inl ⟨by rfl, ?_⟩) hHeld ?_
    rotate_left
    · (intro W hSw; clear hSw; go_simp; try with_reducible rfl)
    try simp only [Act.put, List.setIfInBounds_toArray, List.set_cons_zero, List.set_cons_succ]
    refine wpAnyJ_take (i := 8) (d := some 23) (v := ?_) rfl rfl (by kernel_rfl) (by kernel_rfl) (by kernel_rfl) (by kernel_rfl) (by kernel_rfl) (fun _ _ _ h => h) (Or.inl ⟨by rfl, ?_⟩) hHeld ?_
    rotate_left
    · (intro W hSw; clear hSw; go_simp; try with_reducible rfl)
    try simp only [Act.put, List.setIfInBounds_toArray, List.set_cons_zero, List.set_cons_succ]
    refine wpAnyJ_take (i := 9) (d := some 24) (v := ?_) rfl rfl (by kernel_rfl) (by kernel_rfl) (by kernel_rfl) (by kernel_rfl) (by kernel_rfl) (fun _ _ _ h => h) (Or.inl ⟨by rfl, ?_⟩) hHeld ?_
    rotate_left
    · (intro W hSw; clear hSw; go_simp; try with_reducible rfl)
    try simp only [Act.put, List.setIfInBounds_toArray, List.set_cons_zero, List.set_cons_succ]
    refine wpAnyJ_take (i := 10) (d := some 25) (v := ?_) rfl rfl (by kernel_rfl) (by kernel_rfl) (by kernel_rfl) (by kernel_rfl) (by kernel_rfl) (fun _ _ _ h => h) (Or.inl ⟨by rfl, ?_⟩) hHeld ?_
    rotate_left
    · (intro W hSw; clear hSw; go_simp; try with_reducible rfl)
    try simp only [Act.put, List.setIfInBounds_toArray, List.set_cons_zero, List.set_cons_succ]
    clear k1
    refine wpAnyJ_two (i := 0) (k := 12) (by kernel_rfl) rfl rfl (fun K hK => ?_) (fun K hK => ?_)
    · go_simp
      refine hK.out _ _ (fun _ => ?_) (fun hHeld' => ?_)
      · exact addS_alloc hHeld _
      replace hHeld := hHeld' rfl
      clear hHeld' hK K
      try simp only [Act.put, List.setIfInBounds_toArray, List.set_cons_zero, List.set_cons_succ]
      refine wpAnyJ_more (AddT w0 g dmax An nn cn ns Ad nd cd ds w LT kind w.heap.size) (fun _ h => h.1) ⟨hHeld, ((Blk.new _ _ _).cell _).trans hlet⟩ (fun hHeld => ?_)
      refine wpAnyJ_take (i := 2) (d := some 17) (v := ?_) rfl rfl (by kernel_rfl) (by kernel_rfl) (by kernel_rfl) (by kernel_rfl) (by kernel_rfl) (fun _ _ _ h => h) (Or.inl ⟨by rfl, ?_⟩) hHeld ?_
      rotate_left
      · (intro W hSw; have kt := hSw.2; clear hSw; go_simp; try with_reducible rfl)
      try simp only [Act.put, List.setIfInBounds_toArray, List.set_cons_zero, List.set_cons_succ]
      refine wpAnyJ_take (i := 3) (d := some 18) (v := ?_) rfl rfl (by kernel_rfl) (by kernel_rfl) (by kernel_rfl) (by kernel_rfl) (by kernel_rfl) (fun _ _ _ h => h) (Or.inl ⟨by rfl, ?_⟩) hHeld ?_
      rotate_left
      · (intro W hSw; have kt := hSw.2; clear hSw; go_simp; try with_reducible rfl)
      try simp only [Act.put, List.setIfInBounds_toArray, List.set_cons_zero, List.set_cons_succ]
      generalize hW1 : World.alloc _ _ = W1 at *
      refine wpAnyJ_two (i := 7) (k := 12) (by kernel_rfl) rfl rfl (fun K hK => ?_) (fun K hK => ?_)
      · go_simp
        refine (mkname_any LT nd _ hlz hnd).mono ?_
        rintro e wa ⟨rfl, hba⟩
        go_simp
        refine hK.out _ _ (fun _ => ?_) (fun hHeld' => ?_)
        · exact addT_later hHeld hba
        replace hHeld := hHeld' rfl
        clear hHeld' hK K
        try simp only [Act.put, List.setIfInBounds_toArray, List.set_cons_zero, List.set_cons_succ]
        refine wpAnyJ_take (i := 11) (d := some 26) (v := ?_) rfl rfl (by kernel_rfl) (by kernel_rfl) (by kernel_rfl) (by kernel_rfl) (by kernel_rfl) (fun _ _ _ h => h) (Or.inl ⟨by rfl, ?_⟩) hHeld ?_
        rotate_left
        · (intro W hSw; clear hSw; go_simp; try with_reducible rfl)
        try simp only [Act.put, List.setIfInBounds_toArray, List.set_cons_zero, List.set_cons_succ]
        have HNS := Lib.hid hHeld
        refine wpAnyJ_one (k := 12) (by kernel_rfl) rfl (fun K hK => ?_)
        go_simp
        refine hK.out _ _ (fun _ => ?_) (fun hHeld' => ?_)
        · exact addT_alloc hHeld _
        replace hHeld := hHeld' rfl
        clear hHeld' hK K
        try simp only [Act.put, List.setIfInBounds_toArray, List.set_cons_zero, List.set_cons_succ]
        refine wpAnyJ_one (k := 13) (by kernel_rfl) rfl (fun K hK => ?_)
        go_simp
        refine hK.out _ _ (fun h => by cases h) (fun _ => ?_)
        clear hK K
        try simp only [Act.put, List.setIfInBounds_toArray, List.set_cons_zero, List.set_cons_succ]
        refine wpAnyJ_done (by kernel_rfl) ?_ _
        go_wp2_with fail
        go_meet
        case rel => exact addCut_new HT.out HNS.out.1 HRN.out HRD.out
      · go_simp
        refine hK.out _ _ (fun _ => ?_) (fun hHeld' => ?_)
        · exact addT_alloc hHeld _
        replace hHeld := hHeld' rfl
        clear hHeld' hK K
        try simp only [Act.put, List.setIfInBounds_toArray, List.set_cons_zero, List.set_cons_succ]
        have hle9 : w.heap.size ≤ W1.heap.size := by rw [← hW1]; simp
        refine wpAnyJ_more (AddB w0 g dmax An nn cn ns Ad nd cd ds w LT kind (w.heap.size) (W1.heap.size)) (fun _ h => h.1) ⟨hHeld, Blk.new _ _ _⟩ (fun hHeld => ?_)
        refine wpAnyJ_one (k := 7) (by kernel_rfl) rfl (fun K hK => ?_)
        go_simp
        refine (mkname_any LT nd _ hlz hnd).mono ?_
        rintro e wa ⟨rfl, hba⟩
        go_simp
        refine hK.out _ _ (fun _ => ?_) (fun hHeld' => ?_)
        · exact addB_later hHeld hba
        replace hHeld := hHeld' rfl
        clear hHeld' hK K
        try simp only [Act.put, List.setIfInBounds_toArray, List.set_cons_zero, List.set_cons_succ]
        refine wpAnyJ_take (i := 11) (d := some 26) (v := ?_) rfl rfl (by kernel_rfl) (by kernel_rfl) (by kernel_rfl) (by kernel_rfl) (by kernel_rfl) (fun _ _ _ h => h) (Or.inl ⟨by rfl, ?_⟩) hHeld ?_
        rotate_left
        · (intro W hSw; clear hSw; go_simp; try with_reducible rfl)
        try simp only [Act.put, List.setIfInBounds_toArray, List.set_cons_zero, List.set_cons_succ]
        have HB9 := Lib.hid hHeld.2
        have HS9 := Lib.hid hHeld.1.1
        have z0 : wa.cell? ⟨W1.heap.size, 0, none⟩ = some (.string ⟨#[]⟩) := HB9.out.cell 0
        have f0 : wa.frozen? ⟨W1.heap.size, 0, none⟩ = false := HB9.out.frozen 0
        have z1 : wa.cell? ⟨W1.heap.size, 1, none⟩ = some (.int .i64 0) := HB9.out.cell 1
        have f1 : wa.frozen? ⟨W1.heap.size, 1, none⟩ = false := HB9.out.frozen 1
        have z2 : wa.cell? ⟨W1.heap.size, 2, none⟩ = some (.int .i64 0) := HB9.out.cell 2
        have f2 : wa.frozen? ⟨W1.heap.size, 2, none⟩ = false := HB9.out.frozen 2
        have z3 : wa.cell? ⟨W1.heap.size, 3, none⟩ = some (.int .i64 0) := HB9.out.cell 3
        have f3 : wa.frozen? ⟨W1.heap.size, 3, none⟩ = false := HB9.out.frozen 3
        have z4 : wa.cell? ⟨W1.heap.size, 4, none⟩ = some (.int .i64 0) := HB9.out.cell 4
        have f4 : wa.frozen? ⟨W1.heap.size, 4, none⟩ = false := HB9.out.frozen 4
        refine wpAnyJ_one (k := 13) (by kernel_rfl) rfl (fun K hK => ?_)
        go_simp
        refine hK.out _ _ (fun h => by cases h) (fun _ => ?_)
        clear hK K
        try simp only [Act.put, List.setIfInBounds_toArray, List.set_cons_zero, List.set_cons_succ]
        refine wpAnyJ_done (by kernel_rfl) ?_ _
        go_wp2_with fail
        go_meet
        case rel => exact addCut_of HT.out HS9.out HB9.out hle9 hsz HRN.out HRD.out
    · go_simp
      refine hK.out _ _ (fun _ => ?_) (fun hHeld' => ?_)
      · exact addS_alloc hHeld _
      replace hHeld := hHeld' rfl
      clear hHeld' hK K
      try simp only [Act.put, List.setIfInBounds_toArray, List.set_cons_zero, List.set_cons_succ]
      generalize hW1 : World.alloc _ _ = W1 at *
      have hK1 : Blk W1 w.heap.size 57 #[.string ⟨#[]⟩, .int .i64 0, .int .i64 0, .int .i64 0, .int .i64 0] := by rw [← hW1]; exact Blk.new _ _ _
      have hle9 : w.heap.size ≤ w.heap.size := Nat.le_refl _
      refine wpAnyJ_one (k := 0) (by kernel_rfl) rfl (fun K hK => ?_)
      go_simp
      refine hK.out _ _ (fun _ => ?_) (fun hHeld' => ?_)
      · exact addS_alloc hHeld _
      replace hHeld := hHeld' rfl
      clear hHeld' hK K
      try simp only [Act.put, List.setIfInBounds_toArray, List.set_cons_zero, List.set_cons_succ]
      refine wpAnyJ_more (AddB w0 g dmax An nn cn ns Ad nd cd ds w LT kind (W1.heap.size) (w.heap.size)) (fun _ h => h.1.1) ⟨⟨hHeld, ((Blk.new _ _ _).cell _).trans hlet⟩, hK1.alloc _⟩ (fun hHeld => ?_)
      clear hK1
      refine wpAnyJ_take (i := 2) (d := some 17) (v := ?_) rfl rfl (by kernel_rfl) (by kernel_rfl) (by kernel_rfl) (by kernel_rfl) (by kernel_rfl) (fun _ _ _ h => h) (Or.inl ⟨by rfl, ?_⟩) hHeld ?_
      rotate_left
      · (intro W hSw; have kt := hSw.1.2; clear hSw; go_simp; try with_reducible rfl)
      try simp only [Act.put, List.setIfInBounds_toArray, List.set_cons_zero, List.set_cons_succ]
      refine wpAnyJ_take (i := 3) (d := some 18) (v := ?_) rfl rfl (by kernel_rfl) (by kernel_rfl) (by kernel_rfl) (by kernel_rfl) (by kernel_rfl) (fun _ _ _ h => h) (Or.inl ⟨by rfl, ?_⟩) hHeld ?_
      rotate_left
      · (intro W hSw; have kt := hSw.1.2; clear hSw; go_simp; try with_reducible rfl)
      try simp only [Act.put, List.setIfInBounds_toArray, List.set_cons_zero, List.set_cons_succ]
      refine wpAnyJ_one (k := 7) (by kernel_rfl) rfl (fun K hK => ?_)
      go_simp
      refine (mkname_any LT nd _ hlz hnd).mono ?_
      rintro e wa ⟨rfl, hba⟩
      go_simp
      refine hK.out _ _ (fun _ => ?_) (fun hHeld' => ?_)
      · exact addB_later hHeld hba
      replace hHeld := hHeld' rfl
      clear hHeld' hK K
      try simp only [Act.put, List.setIfInBounds_toArray, List.set_cons_zero, List.set_cons_succ]
      refine wpAnyJ_take (i := 11) (d := some 26) (v := ?_) rfl rfl (by kernel_rfl) (by kernel_rfl) (by kernel_rfl) (by kernel_rfl) (by kernel_rfl) (fun _ _ _ h => h) (Or.inl ⟨by rfl, ?_⟩) hHeld ?_
      rotate_left
      · (intro W hSw; clear hSw; go_simp; try with_reducible rfl)
      try simp only [Act.put, List.setIfInBounds_toArray, List.set_cons_zero, List.set_cons_succ]
      have HB9 := Lib.hid hHeld.2
      have HS9 := Lib.hid hHeld.1.1
      have z0 : wa.cell? ⟨w.heap.size, 0, none⟩ = some (.string ⟨#[]⟩) := HB9.out.cell 0
      have f0 : wa.frozen? ⟨w.heap.size, 0, none⟩ = false := HB9.out.frozen 0
      have z1 : wa.cell? ⟨w.heap.size, 1, none⟩ = some (.int .i64 0) := HB9.out.cell 1
      have f1 : wa.frozen? ⟨w.heap.size, 1, none⟩ = false := HB9.out.frozen 1
      have z2 : wa.cell? ⟨w.heap.size, 2, none⟩ = some (.int .i64 0) := HB9.out.cell 2
      have f2 : wa.frozen? ⟨w.heap.size, 2, none⟩ = false := HB9.out.frozen 2
      have z3 : wa.cell? ⟨w.heap.size, 3, none⟩ = some (.int .i64 0) := HB9.out.cell 3
      have f3 : wa.frozen? ⟨w.heap.size, 3, none⟩ = false := HB9.out.frozen 3
      have z4 : wa.cell? ⟨w.heap.size, 4, none⟩ = some (.int .i64 0) := HB9.out.cell 4
      have f4 : wa.frozen? ⟨w.heap.size, 4, none⟩ = false := HB9.out.frozen 4
      refine wpAnyJ_one (k := 13) (by kernel_rfl) rfl (fun K hK => ?_)
      go_simp
      refine hK.out _ _ (fun h => by cases h) (fun _ => ?_)
      clear hK K
      try simp only [Act.put, List.setIfInBounds_toArray, List.set_cons_zero, List.set_cons_succ]
      refine wpAnyJ_done (by kernel_rfl) ?_ _
      go_wp2_with fail
      go_meet
      case rel => exact addCut_of HT.out HS9.out HB9.out hle9 hsz HRN.out HRD.out
  case rest =>
    obtain ⟨b9, rfl, hns, hblk, hb4, hn9, hd9⟩ := hcut
    have HST := Lib.hid hns; have HBK := Lib.hid hblk; have HN9 := Lib.hid hn9; have HD9 := Lib.hid hd9
    clear hns hblk hn9 hd9
    rename_i wc _
    have kp : wc.cell? ⟨w0.heap.size, 0, none⟩ = some (.pointer (some ⟨g, 0, none⟩)) := HST.out.pb.cell 0
    go_wp2_with fail
    clear kp
    refine (one_any g 8 wc HST.out.deck (by decide)).mono ?_
    rintro e w1 ⟨r, rfl, hd1, hg1, hs1⟩
    have HST1 := Lib.hid (HST.out.next hd1.out hg1.out)
    have HBK1 := Lib.hid (HBK.out.grown hg1.out (fun e => by have := HST.out.lt; injection e with e; omega))
    clear hd1 hg1 hs1
    rcases r with _ | _
    · skip
      have kd : w1.cell? ⟨w0.heap.size + 3, 1, none⟩ = some (.slice Ad nd cd) := HST1.out.nb.cell 1
      have e0 : w1.cell? ⟨b9, 0, none⟩ = some (.string (mkS (nm2 (letterT kind) nd))) := HBK1.out.cell 0
      have e1 : w1.cell? ⟨b9, 1, none⟩ = some (.int .i64 kind) := HBK1.out.cell 1
      have e2 : w1.cell? ⟨b9, 2, none⟩ = some (.int .i64 a) := HBK1.out.cell 2
      have e3 : w1.cell? ⟨b9, 3, none⟩ = some (.int .i64 b) := HBK1.out.cell 3
      have e4 : w1.cell? ⟨b9, 4, none⟩ = some (.int .i64 0) := HBK1.out.cell 4
      have hz4 := HST1.out.size
      go_wp2_with (at_builtin; go_must (refine wpList_app rfl (.tmp 34) (.tmp 36) rfl el_dev (by rfl) (HST1.out.rd.alloc _) (by rfl) (Sl.newest (n := 1) (by rfl) (by rfl) (by decide)) (by simp [Value.oneCell']) (by omega) (by omega) (by simp; omega) ?_; intro A' cap' w3 hown3 hgr3 hat3; have hnb := (HST1.out.alloc _).nb_row hgr3; have HN3 := Lib.hid ((HST1.out.alloc _).dev (x := ⟨mkS (nm2 (letterT kind) nd), kind, a, b, 0⟩) hown3 hgr3 hat3); have kn : w3.cell? ⟨w0.heap.size + 3, 1, none⟩ = some (.slice Ad nd cd) := hnb.cell 1; have fn := hnb.frozen 1; clear hown3 hgr3 hat3 hnb))
      go_end0
      exact ⟨rfl, A', nd + 1, cap', _, HN3.out, fun h => absurd h (by omega), fun _ => ⟨rfl, 0, by decide, by decide, rfl⟩⟩
    · have kp : w1.cell? ⟨w0.heap.size, 0, none⟩ = some (.pointer (some ⟨g, 0, none⟩)) := HST1.out.pb.cell 0
      go_wp2_with fail
      clear kp
      refine (next_any g 2 w1 HST1.out.deck (by decide)).mono ?_
      rintro e w2 ⟨r, rfl, hr0, hr1, hr2, hd2, hg2, hs2⟩
      have hr3 : r < 2 := hr2.out (by decide)
      have HST2 := Lib.hid (HST1.out.next hd2.out hg2.out)
      have HBK2 := Lib.hid (HBK1.out.grown hg2.out (fun e => by have := HST.out.lt; injection e with e; omega))
      clear hr1 hr2 hd2 hg2 hs2
      have c4 : w2.cell? ⟨b9, 4, none⟩ = some (.int .i64 0) := HBK2.out.cell 4
      have f4 := HBK2.out.frozen 4
      have HST3 := Lib.hid (HST2.out.store (u := .int .i64 (1 + r)) (j := 4) hb4 HN9.out HD9.out)
      have HBK3 := Lib.hid (HBK2.out.set 4 (.int .i64 (1 + r)))
      go_upto_region 4 with (fail)
      clear c4 f4
      generalize World.setCell _ _ _ = w4 at *
      have kd : w4.cell? ⟨w0.heap.size + 3, 1, none⟩ = some (.slice Ad nd cd) := HST3.out.nb.cell 1
      have e0 : w4.cell? ⟨b9, 0, none⟩ = some (.string (mkS (nm2 (letterT kind) nd))) := HBK3.out.cell 0
      have e1 : w4.cell? ⟨b9, 1, none⟩ = some (.int .i64 kind) := HBK3.out.cell 1
      have e2 : w4.cell? ⟨b9, 2, none⟩ = some (.int .i64 a) := HBK3.out.cell 2
      have e3 : w4.cell? ⟨b9, 3, none⟩ = some (.int .i64 b) := HBK3.out.cell 3
      have e4 : w4.cell? ⟨b9, 4, none⟩ = some (.int .i64 (1 + r)) := HBK3.out.cell 4
      have hz4 := HST3.out.size
      go_wp2_with (at_builtin; go_must (refine wpList_app rfl (.tmp 34) (.tmp 36) rfl el_dev (by rfl) (HST3.out.rd.alloc _) (by rfl) (Sl.newest (n := 1) (by rfl) (by rfl) (by decide)) (by simp [Value.oneCell']) (by omega) (by omega) (by simp; omega) ?_; intro A' cap' w3 hown3 hgr3 hat3; have hnb := (HST3.out.alloc _).nb_row hgr3; have HN3 := Lib.hid ((HST3.out.alloc _).dev (x := ⟨mkS (nm2 (letterT kind) nd), kind, a, b, (1 + r)⟩) hown3 hgr3 hat3); have kn : w3.cell? ⟨w0.heap.size + 3, 1, none⟩ = some (.slice Ad nd cd) := hnb.cell 1; have fn := hnb.frozen 1; clear hown3 hgr3 hat3 hnb))
      go_end0
      exact ⟨rfl, A', nd + 1, cap', _, HN3.out, fun h => absurd h (by omega), fun _ => ⟨rfl, 1 + r, by omega, by omega, rfl⟩⟩
end Go.Proofs.YtbjndpjligpjaaaDoor
