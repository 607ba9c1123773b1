import Derived.Deep.QuietTactic
import Derived.BigQuiet
import Derived.Laws.Pointers
import Derived.Test.YtddddlhgaeameaaGreatDoorM02
set_option maxRecDepth 100000
set_option maxHeartbeats 1000000
namespace Go.Proofs.YtddddlhgaeameaaGreatDoor
section
open Go.RowKit
theorem jK (A : Option Addr) (n c : Nat) (w : World) (hn : n ≤ 9223372036854775807) : Calls Tryz.prog 6 #[.slice A n c] w fun e w' => e = .returned (.bool (decide (n ≤ 400))) ∧ w = w' := by
 go_enter Tryz.func6, Tryz.ntmps6
 go_wp2
 go_ret
 exact ⟨zI (by simp; omega), rfl⟩
def zS (w : World) (g : Nat) : Prop :=
 ∃ (A : Option Addr) (n c k : Nat) (l : List Int) (s : Int), w.heap[g]? = some (.cells #[.slice A n c, .int .i64 k, .int .u64 s] 78 (0, 0)) ∧ Sl w g 1 A n c (zK l) ∧ k ≤ n ∧ 0 ≤ s ∧ s < 18446744073709551616
theorem zS.lt {w : World} {g : Nat} (h : zS w g) : g < w.heap.size := by
 obtain ⟨A, n, c, k, l, s, hh, _⟩ := h
 exact (Array.getElem?_eq_some_iff.1 hh).1
theorem zS.keep {w w' : World} {g : Nat} (h : zS w g) (hk : ∀ i, i ≤ g → w'.heap[i]? = w.heap[i]?) : zS w' g := by
 obtain ⟨A, n, c, k, l, s, hh, hs, h1, h2, h3⟩ := h
 exact ⟨A, n, c, k, l, s, (hk g lR).trans hh, hs.keep fun p hp => World.cell?_of_block (hk p.block (by omega)), h1, h2, h3⟩
theorem zS.below {w w' : World} {g B : Nat} (h : zS w g) (hb : Below B w w') (hg : g < B) : zS w' g := h.keep fun i hi => hb.block i (by omega)
theorem zS.alloc {w : World} {g : Nat} (h : zS w g) (o : Obj) : zS (w.alloc o) g := h.keep fun i hi => Below.heap_alloc w o i (by have := h.lt; omega)
theorem zS.drewN {w : World} {g : Nat} (h : zS w g) (n : Nat) : zS (w.drewN n) g := h
theorem zS.drew {w : World} {g : Nat} (h : zS w g) : zS w.drew g := h
theorem zS.setCell {w : World} {g : Nat} (h : zS w g) {p : Addr} (hp : g < p.block) (u : Value) : zS (w.setCell p u) g := h.keep fun i hi => Below.heap_setCell w p u i (by omega)
theorem zS.grown {w w' : World} {g : Nat} (h : zS w g) {row : Option Nat} (hg : w.grownBy w' row) (hr : ∀ k, row = some k → g < k) : zS w' g :=
 h.keep fun i hi => hg.block i (by have := h.lt; omega) (fun e => by have := hr _ e.symm; omega)
theorem jB (A : Option Addr) (n c B : Nat) (l : List Int) (w : World) (hr : Sl w B 1 A n c (zK l)) (hB : B ≤ w.heap.size) :
 Calls Tryz.prog 9 #[.slice A n c] w fun e w' => e = .returned (.pointer (some ⟨w.heap.size, 0, none⟩)) ∧ Hid (zS w' w.heap.size) ∧ Hid (Below w.heap.size w w') ∧ Hid (w'.heap.size = w.heap.size + 1) := by
 go_enter Tryz.func9, Tryz.ntmps9
 go_wp2
 go_ret
 refine ⟨rfl, ⟨A, n, c, 0, l, 88172645463325252, heap_alloc_new w _, (hr.more hB).alloc lR _, Nat.zero_le _, by decide, by decide⟩, (Below.refl _ _).alloc lR _, by unfold Hid; simp⟩
theorem vf (t : Int) : 0 ≤ IntKind.u64.wrap t ∧ IntKind.u64.wrap t < 18446744073709551616 := by
 have : IntKind.u64.wrap t = t % 18446744073709551616 := by simp [IntKind.wrap, IntKind.bits, IntKind.signed]
 omega
theorem pl (t n : Int) (hn : 1 ≤ n) : 0 ≤ wrap64 ((IntKind.u64.wrap t / 8589934592).tmod n) ∧ wrap64 ((IntKind.u64.wrap t / 8589934592).tmod n) < n := by
 obtain ⟨h0, h1⟩ := vf t
 generalize IntKind.u64.wrap t = q at *
 have hq : 0 ≤ q / 8589934592 ∧ q / 8589934592 ≤ 2147483647 := by omega
 generalize q / 8589934592 = z at *
 rw [Int.tmod_eq_emod_of_nonneg hq.1]
 have h2 := Int.emod_nonneg z (show n ≠ 0 by omega)
 have h3 := Int.emod_lt_of_pos z (show 0 < n by omega)
 have h4 : z % n ≤ z := by
  rcases Int.lt_or_le z n with h | h
  ·rw [Int.emod_eq_of_lt hq.1 h]; exact Int.le_refl _
  ·omega
 rw [IntWalk.wrap64_in _ ⟨by omega, by omega⟩]
 omega
section
variable {w : World} {g m c k : Nat} {A : Option Addr} {s : Int} {l : List Int}
theorem pj (w : World) (g d : Nat) (u : Value) :
 w.grownBy ((w.drewN d).setCell ⟨g, 2, none⟩ u) (some g) ∧ ((w.drewN d).setCell ⟨g, 2, none⟩ u).heap.size = w.heap.size :=
 ⟨⟨rfl, rfl, rfl, by simp [World.setCell], fun i _ hi => Below.heap_setCell (w.drewN d) _ u i (fun e => hi (by rw [e]))⟩, by simp [World.setCell]⟩
theorem pi (w : World) (g d : Nat) (u v : Value) :
 w.grownBy (((w.drewN d).setCell ⟨g, 1, none⟩ u).setCell ⟨g, 2, none⟩ v) (some g) ∧ (((w.drewN d).setCell ⟨g, 1, none⟩ u).setCell ⟨g, 2, none⟩ v).heap.size = w.heap.size :=
 ⟨⟨rfl, rfl, rfl, by simp [World.setCell], fun i _ hi => (Below.heap_setCell _ _ v i (fun e => hi (by rw [e]))).trans (Below.heap_setCell (w.drewN d) _ u i (fun e => hi (by rw [e])))⟩, by simp [World.setCell]⟩
theorem oG (hh : w.heap[g]? = some (.cells #[.slice A m c, .int .i64 k, .int .u64 s] 78 (0, 0))) (hs : Sl w g 1 A m c (zK l)) (hk : k ≤ m) (t : Int) :
 zS (w.setCell ⟨g, 2, none⟩ (.int .u64 (IntKind.u64.wrap t))) g := by
 refine ⟨A, m, c, k, l, IntKind.u64.wrap t, ?_, hs.setCell lR _, hk, vf t⟩
 simp [World.setCell, Array.getElem?_modify, hh]
theorem oF (hh : w.heap[g]? = some (.cells #[.slice A m c, .int .i64 k, .int .u64 s] 78 (0, 0))) (hs : Sl w g 1 A m c (zK l)) (hk : k < m) (t : Int) :
 zS ((w.setCell ⟨g, 1, none⟩ (.int .i64 ((k : Int) + 1))).setCell ⟨g, 2, none⟩ (.int .u64 (IntKind.u64.wrap t))) g := by
 refine ⟨A, m, c, k + 1, l, IntKind.u64.wrap t, ?_, (hs.setCell lR _).setCell lR _, hk, vf t⟩
 simp [World.setCell, Array.getElem?_modify, hh]
end
def kT (w : World) (g : Nat) (n : Int) (e : Ending) (w' : World) : Prop :=
 ∃ r : Int, e = .returned (.int .i64 r) ∧ 0 ≤ r ∧ Hid (n < 1 → r = 0) ∧ Hid (1 ≤ n → r < n) ∧ Hid (zS w' g) ∧ Hid (w.grownBy w' (some g)) ∧ Hid (w'.heap.size = w.heap.size)
theorem zW (g : Nat) (n : Int) (w : World) (hd : zS w g) (hn : n ≤ 9223372036854775807) : Calls Tryz.prog 20 #[.pointer (some ⟨g, 0, none⟩), .int .i64 n] w (kT w g n) := by
 have hlt := hd.lt
 obtain ⟨A, m, c, k, l, s, hh, hs, h1, h2, h3⟩ := hd
 obtain ⟨hmc, hcm⟩ := hs.le
 have c0 : w.cell? ⟨g, 0, none⟩ = some (.slice A m c) := cell_of_row w g 0 _ _ _ hh
 have c1 : w.cell? ⟨g, 1, none⟩ = some (.int .i64 k) := cell_of_row w g 1 _ _ _ hh
 have c2 : w.cell? ⟨g, 2, none⟩ = some (.int .u64 s) := cell_of_row w g 2 _ _ _ hh
 have f0 : ∀ j, w.frozen? ⟨g, j, none⟩ = false := fun j => by simp [World.frozen?, hh]
 have f1 := f0 1
 have f2 := f0 2
 have HH := iD hh; have HS := iD hs
 clear hh hs f0
 have H3 := iD h3; clear h3
 by_cases hk : k < m
 ·obtain ⟨b, off, x, rfl, hb, hx, hcell⟩ := HS.out.at1 hk
  clear hx
  have hki : (k : Int) < (m : Int) := by omega
  go_enter Tryz.func20, Tryz.ntmps20
  go_wp2_with fail
  go_quiet (fail)
  go_wp2_with fail
  go_quiet (fail)
  go_wp2_with fail
  ·go_ret
   exact ⟨_, rfl, Int.le_refl _, fun _ => rfl, fun h => absurd h (by omega), oF HH.out HS.out hk _, pi w g _ _ _⟩
  ·go_ret
   have hr := pl (IntKind.u64.wrap (IntKind.u64.wrap (s * 6364136223846793005) + IntKind.u64.wrap x) + 1442695040888963407) n (by omega)
   exact ⟨_, rfl, hr.1, fun h => absurd h (by omega), fun _ => hr.2, oF HH.out HS.out hk _, pi w g _ _ _⟩
 ·have hki : decide ((k : Int) < (m : Int)) = false := by simp; omega
  go_enter Tryz.func20, Tryz.ntmps20
  go_wp2_with fail
  go_quiet (fail)
  go_wp2_with fail
  ·go_ret
   exact ⟨_, rfl, Int.le_refl _, fun _ => rfl, fun h => absurd h (by omega), oG HH.out HS.out h1 _, pj w g _ _⟩
  ·go_ret
   have hr := pl (IntKind.u64.wrap (IntKind.u64.wrap (s * 6364136223846793005)) + 1442695040888963407) n (by omega)
   exact ⟨_, rfl, hr.1, fun h => absurd h (by omega), fun _ => hr.2, oG HH.out HS.out h1 _, pj w g _ _⟩
end
section
open Go.RowKit
def nm2 (l : List UInt8) (k : Nat) : List UInt8 := l ++ [UInt8.ofNat (48 + k / 10), UInt8.ofNat (48 + k % 10)]
theorem vS (l : ByteArray) (k : Nat) (w : World) (hl : l.size ≤ 1000) (hk : k < 100) : Calls Tryz.prog 32 #[.string l, .int .i64 k] w fun e w' => e = .returned (.string (mkS (nm2 (toL l) k))) ∧ Below w.heap.size w w' := by
 have e1 : (k : Int) / 10 = ((k / 10 : Nat) : Int) := by omega
 have e2 : (k : Int) % 10 = ((k % 10 : Nat) : Int) := by omega
 have h1 : k / 10 < 10 := by omega
 have h2 : k % 10 < 10 := by omega
 have HS : Hid (l ++ mkS [UInt8.ofNat (48 + k / 10), UInt8.ofNat (48 + k % 10)] = mkS (nm2 (toL l) k)) := by
  unfold Hid
  apply um
  rw [og, vj, vj, nm2]
 generalize k / 10 = p at *
 generalize k % 10 = q at *
 have u1 : ((48 : Int) + (p : Int)) = ((UInt8.ofNat (48 + p)).toNat : Int) := by rw [UInt8.toNat_ofNat']; omega
 have u2 : ((48 : Int) + (q : Int)) = ((UInt8.ofNat (48 + q)).toNat : Int) := by rw [UInt8.toNat_ofNat']; omega
 have HU1 := iD u1; have HU2 := iD u2
 clear u1 u2
 have hcv : ∀ W : World, (convert 104 9 (.slice (some ⟨w.heap.size, 0, none⟩) 2 2)).run Tryz.prog (w.alloc (.cells #[.int .u8 (48 + (p : Int)), .int .u8 (48 + (q : Int))] 5)) = .ok (.string (mkS [UInt8.ofNat (48 + p), UInt8.ofNat (48 + q)])) (w.alloc (.cells #[.int .u8 (48 + (p : Int)), .int .u8 (48 + (q : Int))] 5)) := fun _ => by
  refine rX (B := w.heap.size + 1) Tryz.underlying104 Tryz.underlying5 Tryz.underlying9 ?_
  have := Sl.newest (w := w) (cs := #[.int .u8 (48 + (p : Int)), .int .u8 (48 + (q : Int))]) (T := 5) (fr := (0, 0)) (n := 2) (size := 1) rfl rfl (by decide)
  simp only [kO, List.flatMap_cons, List.flatMap_nil, List.singleton_append, ← HU1.out, ← HU2.out]
  exact this
 replace hcv := hcv w
 have hz : (mkS [UInt8.ofNat (48 + p), UInt8.ofNat (48 + q)]).size = 2 := by rw [qW]; rfl
 generalize mkS [UInt8.ofNat (48 + p), UInt8.ofNat (48 + q)] = S2 at *
 have hcat : ¬ (9223372036854775807 < l.size + S2.size) := by omega
 clear hz
 go_enter Tryz.func32, Tryz.ntmps32
 go_wp2_with fail
 go_ret
 exact ⟨by rw [← HS.out]; rfl, (Below.refl _ _).alloc lR _⟩
end
section
open Go.RowKit
def jQ (w : World) (g : Nat) (e : Ending) (w' : World) : Prop :=
 ∃ r : Bool, e = .returned (.bool r) ∧ Hid (zS w' g) ∧ Hid (w.grownBy w' (some g)) ∧ Hid (w'.heap.size = w.heap.size)
theorem wQ (g : Nat) (n : Int) (w : World) (hd : zS w g) (hn : n ≤ 9223372036854775807) : Calls Tryz.prog 33 #[.pointer (some ⟨g, 0, none⟩), .int .i64 n] w (jQ w g) := by
 have HD := iD hd; clear hd
 go_enter Tryz.func33, Tryz.ntmps33
 go_wp2_with fail
 refine (zW g n w HD.out hn).mono ?_
 rintro e w1 ⟨r, rfl, h0, h1, h2, h3, h4, h5⟩
 clear h1 h2
 go_wp2_with fail
 go_ret
 exact ⟨_, rfl, h3, h4, h5⟩
end
section
open Go.RowKit
theorem sL : xV Tryz.prog 23 73 3 32 := xV.mk' (z := .agg #[.string ⟨#[]⟩, .int .i64 0, .int .i64 0]) Tryz.underlying23 (by kernel_rfl) rfl (by decide)
theorem kM : xV Tryz.prog 24 75 5 48 := xV.mk' (z := .agg #[.string ⟨#[]⟩, .int .i64 0, .int .i64 0, .int .i64 0, .int .i64 0]) Tryz.underlying24 (by kernel_rfl) rfl (by decide)
structure yC (w0 : World) (g : Nat) (dmax : Int) (An : Option Addr) (nn cn : Nat) (ns : List Nd) (Ad : Option Addr) (nd cd : Nat) (ds : List Dv) (w : World) : Prop where
 lt : g < w0.heap.size
 deck : zS w g
 gr : w0.grownBy w (some g)
 pb : Blk w w0.heap.size 38 #[.pointer (some ⟨g, 0, none⟩)]
 db : Blk w (w0.heap.size + 1) 3 #[.int .i64 dmax]
 rb : Blk w (w0.heap.size + 2) 26 #[.slice none 0 0, .slice none 0 0]
 nb : Blk w (w0.heap.size + 3) 26 #[.slice An nn cn, .slice Ad nd cd]
 rn : w.ownsRow (w0.heap.size + 4) 73 3 (.slice An nn cn) nn (ns.flatMap Nd.cells)
 rd : w.ownsRow (w0.heap.size + 4) 75 5 (.slice Ad nd cd) nd (ds.flatMap Dv.cells)
 ne : (Value.slice An nn cn).ownBlock = none ∨ (Value.slice An nn cn).ownBlock ≠ (Value.slice Ad nd cd).ownBlock
section
variable {w0 w w' : World} {g : Nat} {dmax : Int} {An Ad : Option Addr} {nn cn nd cd : Nat} {ns : List Nd} {ds : List Dv}
theorem yC.size (h : yC w0 g dmax An nn cn ns Ad nd cd ds w) : w0.heap.size + 4 ≤ w.heap.size := h.nb.lt
theorem zm {v : Value} {q : Nat} (h : ∀ b, v.ownBlock = some b → b ≠ q) : v.ownBlock = none ∨ v.ownBlock ≠ some q := by
 cases hv : v.ownBlock with
 | none => exact .inl rfl
 | some b => exact .inr fun e => by injection e with e; exact h b hv e
theorem yC.next (h : yC w0 g dmax An nn cn ns Ad nd cd ds w) (hd : zS w' g) (hg : w.grownBy w' (some g)) : yC w0 g dmax An nn cn ns Ad nd cd ds w' := by
 have hl := h.lt
 exact ⟨hl, hd, zP h.gr hg, h.pb.grown hg (by simp; omega), h.db.grown hg (by simp; omega), h.rb.grown hg (by simp; omega), h.nb.grown hg (by simp; omega), h.rn.kept hg (zm fun b e => by have := (h.rn.lt b e).1; omega), h.rd.kept hg (zm fun b e => by have := (h.rd.lt b e).1; omega), h.ne⟩
theorem yC.later (h : yC w0 g dmax An nn cn ns Ad nd cd ds w) (hb : Below w.heap.size w w') : yC w0 g dmax An nn cn ns Ad nd cd ds w' := by
 have hg := zN hb none
 exact ⟨h.lt, h.deck.below hb h.deck.lt, zP h.gr (zN hb _), h.pb.below hb h.pb.lt, h.db.below hb h.db.lt, h.rb.below hb h.rb.lt, h.nb.below hb h.nb.lt, h.rn.kept hg (Classical.em _), h.rd.kept hg (Classical.em _), h.ne⟩
theorem yC.alloc (h : yC w0 g dmax An nn cn ns Ad nd cd ds w) (o : Obj) : yC w0 g dmax An nn cn ns Ad nd cd ds (w.alloc o) := h.later ((Below.refl _ _).alloc lR _)
theorem yC.drew (h : yC w0 g dmax An nn cn ns Ad nd cd ds w) : yC w0 g dmax An nn cn ns Ad nd cd ds w.drew := h.later (Below.refl _ _).drew
theorem yC.store {q j : Nat} {u : Value} (h : yC w0 g dmax An nn cn ns Ad nd cd ds w) (hq : w0.heap.size + 4 ≤ q) (hn : ∀ b, (Value.slice An nn cn).ownBlock = some b → b ≠ q) (hd : ∀ b, (Value.slice Ad nd cd).ownBlock = some b → b ≠ q) : yC w0 g dmax An nn cn ns Ad nd cd ds (w.setCell ⟨q, j, none⟩ u) := by
 have hl := h.lt
 have hg : w.grownBy (w.setCell ⟨q, j, none⟩ u) (some q) := ⟨rfl, rfl, rfl, by simp [World.setCell], fun i _ hi => Below.heap_setCell w _ _ i (fun e => hi (by rw [e]))⟩
 exact ⟨hl, h.deck.setCell (by simp; omega) _, zy h.gr (by simp; omega) _, h.pb.far (by simp; omega) _, h.db.far (by simp; omega) _, h.rb.far (by simp; omega) _, h.nb.far (by simp; omega) _, h.rn.kept hg (zm hn), h.rd.kept hg (zm hd), h.ne⟩
theorem yC.dev {A1 : Option Addr} {c1 : Nat} {x : Dv} {w1 : World} (h : yC w0 g dmax An nn cn ns Ad nd cd ds w) (ho : w1.ownsRow (w0.heap.size + 4) 75 5 (.slice A1 (nd + 1) c1) (nd + 1) (ds.flatMap Dv.cells ++ x.cells)) (hg : w.grownBy w1 (Value.slice Ad nd cd).ownBlock)
 (hv : (Value.slice A1 (nd + 1) c1).ownBlock = (Value.slice Ad nd cd).ownBlock ∨ (Value.slice A1 (nd + 1) c1).ownBlock = some w.heap.size) : yC w0 g dmax An nn cn ns A1 (nd + 1) c1 (ds ++ [x]) (w1.setCell ⟨w0.heap.size + 3, 1, none⟩ (.slice A1 (nd + 1) c1)) := by
 have hl := h.lt
 have hz := h.size
 have hr : ∀ b, (Value.slice Ad nd cd).ownBlock = some b → w0.heap.size + 4 ≤ b ∧ b < w.heap.size := fun b e => h.rd.lt b e
 have hr1 : ∀ b, (Value.slice A1 (nd + 1) c1).ownBlock = some b → w0.heap.size + 4 ≤ b := fun b e => (ho.lt b e).1
 have far : ∀ q, q < w0.heap.size + 4 → some q ≠ (Value.slice Ad nd cd).ownBlock := fun q hq e => by have := (hr q e.symm).1; omega
 have hnn : (Value.slice An nn cn).ownBlock = none ∨ (Value.slice An nn cn).ownBlock ≠ (Value.slice Ad nd cd).ownBlock := h.ne
 have hg3 : w1.grownBy (w1.setCell ⟨w0.heap.size + 3, 1, none⟩ (.slice A1 (nd + 1) c1)) (some (w0.heap.size + 3)) := ⟨rfl, rfl, rfl, by simp [World.setCell], fun i _ hi => Below.heap_setCell w1 _ _ i (fun e => hi (by rw [e]))⟩
 refine ⟨hl, (h.deck.grown hg (fun k e => by have := (hr k e).1; omega)).setCell (by simp; omega) _, zy (uB h.gr hg (fun k e => by have := (hr k e).1; omega)) (by simp) _, (h.pb.grown hg (far _ (by omega))).far (by simp) _, (h.db.grown hg (far _ (by omega))).far (by simp) _, (h.rb.grown hg (far _ (by omega))).far (by simp) _, (h.nb.grown hg (far _ (by omega))).set 1 _, (h.rn.kept hg hnn).kept hg3 (zm fun b e => by have := (h.rn.lt b e).1; omega), ?_, ?_⟩
 ·rw [List.flatMap_append]
  exact (ho.kept hg3 (zm fun b e => by have := hr1 b e; omega)).mono lR |> fun h => by simpa using h
 ·rcases hv with e | e
  ·rw [e]; exact h.ne
  ·rw [e]
   exact (zm fun b eb => by have := (h.rn.lt b eb).2; omega)
theorem yC.node {A1 : Option Addr} {c1 : Nat} {x : Nd} {w1 : World} (h : yC w0 g dmax An nn cn ns Ad nd cd ds w) (ho : w1.ownsRow (w0.heap.size + 4) 73 3 (.slice A1 (nn + 1) c1) (nn + 1) (ns.flatMap Nd.cells ++ x.cells)) (hg : w.grownBy w1 (Value.slice An nn cn).ownBlock)
 (hv : (Value.slice A1 (nn + 1) c1).ownBlock = (Value.slice An nn cn).ownBlock ∨ (Value.slice A1 (nn + 1) c1).ownBlock = some w.heap.size) : yC w0 g dmax A1 (nn + 1) c1 (ns ++ [x]) Ad nd cd ds (w1.setCell ⟨w0.heap.size + 3, 0, none⟩ (.slice A1 (nn + 1) c1)) := by
 have hl := h.lt
 have hz := h.size
 have hr : ∀ b, (Value.slice An nn cn).ownBlock = some b → w0.heap.size + 4 ≤ b ∧ b < w.heap.size := fun b e => h.rn.lt b e
 have hr1 : ∀ b, (Value.slice A1 (nn + 1) c1).ownBlock = some b → w0.heap.size + 4 ≤ b := fun b e => (ho.lt b e).1
 have far : ∀ q, q < w0.heap.size + 4 → some q ≠ (Value.slice An nn cn).ownBlock := fun q hq e => by have := (hr q e.symm).1; omega
 have hnn : (Value.slice Ad nd cd).ownBlock = none ∨ (Value.slice Ad nd cd).ownBlock ≠ (Value.slice An nn cn).ownBlock := by
  cases hv : (Value.slice Ad nd cd).ownBlock with
  | none => exact .inl rfl
  | some b => exact .inr fun e => h.ne.elim (fun h0 => by rw [h0] at e; cases e) (fun h0 => h0 (by rw [hv, e]))
 have hg3 : w1.grownBy (w1.setCell ⟨w0.heap.size + 3, 0, none⟩ (.slice A1 (nn + 1) c1)) (some (w0.heap.size + 3)) := ⟨rfl, rfl, rfl, by simp [World.setCell], fun i _ hi => Below.heap_setCell w1 _ _ i (fun e => hi (by rw [e]))⟩
 refine ⟨hl, (h.deck.grown hg (fun k e => by have := (hr k e).1; omega)).setCell (by simp; omega) _, zy (uB h.gr hg (fun k e => by have := (hr k e).1; omega)) (by simp) _, (h.pb.grown hg (far _ (by omega))).far (by simp) _, (h.db.grown hg (far _ (by omega))).far (by simp) _, (h.rb.grown hg (far _ (by omega))).far (by simp) _, (h.nb.grown hg (far _ (by omega))).set 0 _, ?_, (h.rd.kept hg hnn).kept hg3 (zm fun b e => by have := (h.rd.lt b e).1; omega), ?_⟩
 ·have := ho.kept hg3 (zm fun b e => by have := hr1 b e; omega)
  rw [List.flatMap_append]
  simpa using this
 ·rcases hv with e | e
  ·rw [e]; exact h.ne
  ·rw [e]
   refine .inr fun e2 => ?_
   have := (h.rd.lt _ e2.symm).2
   omega
end
end
end Go.Proofs.YtddddlhgaeameaaGreatDoor
