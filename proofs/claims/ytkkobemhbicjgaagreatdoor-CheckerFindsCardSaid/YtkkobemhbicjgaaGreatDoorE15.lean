import Derived.Test.YtkkobemhbicjgaaGreatDoorE14
import Derived.Deep.RegionLaw
import Derived.Deep.RegionWith
import Derived.Deep.DrawnRows
set_option maxRecDepth 100000
set_option maxHeartbeats 4000000
namespace Go.Proofs.YtkkobemhbicjgaaGreatDoor
section
open Go.RowKit
end
section
open Go.RowKit
end
section
open Go.RowKit
attribute [local go_sem ↓] Go.wp_at_zero Go.wp_at_succ
def yq (k : Nat) : List UInt8 := [[], [76], [81], [68], [69], [83], [71]].getD k []
def gC (w0 : World) (g : Nat) (dmax : Int) (An : Option Addr) (nn cn : Nat) (ns : List Nd) (nd : Nat) (ds : List Dv) (kind : Nat) (a b : Int) (e : Ending) (w' : World) : Prop :=
 e = .returned (.tuple #[]) ∧ ∃ (Ad' : Option Addr) (nd' cd' : Nat) (ds' : List Dv), yA w0 g dmax An nn cn ns Ad' nd' cd' ds' w' ∧ (dmax ≤ nd → nd' = nd ∧ ds' = ds) ∧ (nd < dmax → nd' = nd + 1 ∧ ∃ comp : Int, 0 ≤ comp ∧ comp ≤ 2 ∧ ds' = ds ++ [⟨mkS (nm2 (yq kind) nd), kind, a, b, comp⟩])
def nk (w0 : World) (g : Nat) (dmax : Int) (An : Option Addr) (nn cn : Nat) (ns : List Nd) (Ad : Option Addr) (nd cd : Nat) (ds : List Dv) (kind : Nat) (a b : Int) (s9 : Value) (wc : World) : Prop :=
 ∃ b9 : Nat, s9 = .pointer (some ⟨b9, 0, none⟩) ∧ yA w0 g dmax An nn cn ns Ad nd cd ds wc ∧ Blk wc b9 57 #[.string (mkS (nm2 (yq kind) nd)), .int .i64 kind, .int .i64 a, .int .i64 b, .int .i64 0] ∧ w0.heap.size + 4 ≤ b9 ∧ (∀ q, (Value.slice An nn cn).ownBlock = some q → q ≠ b9) ∧ (∀ q, (Value.slice Ad nd cd).ownBlock = some q → q ≠ b9)
def oO (w0 : World) (g : Nat) (dmax : Int) (An : Option Addr) (nn cn : Nat) (ns : List Nd) (Ad : Option Addr) (nd cd : Nat) (ds : List Dv) (w W : World) : Prop := yA w0 g dmax An nn cn ns Ad nd cd ds W ∧ w.heap.size ≤ W.heap.size
def kE (w0 : World) (g : Nat) (dmax : Int) (An : Option Addr) (nn cn : Nat) (ns : List Nd) (Ad : Option Addr) (nd cd : Nat) (ds : List Dv) (w : World) (LT : ByteArray) (kind t : Nat) (W : World) : Prop := oO w0 g dmax An nn cn ns Ad nd cd ds w W ∧ W.cell? ⟨t, kind, none⟩ = some (.string LT)
def gD (w0 : World) (g : Nat) (dmax : Int) (An : Option Addr) (nn cn : Nat) (ns : List Nd) (Ad : Option Addr) (nd cd : Nat) (ds : List Dv) (w : World) (LT : ByteArray) (kind t q : Nat) (W : World) : Prop := kE w0 g dmax An nn cn ns Ad nd cd ds w LT kind t W ∧ Blk W q 57 #[.string ⟨#[]⟩, .int .i64 0, .int .i64 0, .int .i64 0, .int .i64 0]
section
variable {w0 w W W' : World} {g : Nat} {dmax : Int} {An Ad : Option Addr} {nn cn nd cd kind t : Nat} {ns : List Nd} {ds : List Dv} {LT : ByteArray}
theorem uN (h : oO w0 g dmax An nn cn ns Ad nd cd ds w W) (o : Obj) : oO w0 g dmax An nn cn ns Ad nd cd ds w (W.alloc o) := ⟨h.1.alloc o, by have := h.2; simp; omega⟩
theorem nZ (h : oO w0 g dmax An nn cn ns Ad nd cd ds w W) (hb : Below W.heap.size W W') : oO w0 g dmax An nn cn ns Ad nd cd ds w W' := ⟨h.1.later hb, Nat.le_trans h.2 hb.size⟩
theorem uM (h : kE w0 g dmax An nn cn ns Ad nd cd ds w LT kind t W) (hb : Below W.heap.size W W') : kE w0 g dmax An nn cn ns Ad nd cd ds w LT kind t W' := ⟨nZ h.1 hb, (hb.cell (p := ⟨t, kind, none⟩) (wK h.2)).trans h.2⟩
theorem sq (h : kE w0 g dmax An nn cn ns Ad nd cd ds w LT kind t W) (o : Obj) : kE w0 g dmax An nn cn ns Ad nd cd ds w LT kind t (W.alloc o) := uM h ((Below.refl _ _).alloc lR _)
theorem sr {q : Nat} (h : gD w0 g dmax An nn cn ns Ad nd cd ds w LT kind t q W) (hb : Below W.heap.size W W') : gD w0 g dmax An nn cn ns Ad nd cd ds w LT kind t q W' := ⟨uM h.1 hb, h.2.below hb h.2.lt⟩
theorem na {a b : Int} (hT : toL LT = yq kind) (h : oO w0 g dmax An nn cn ns Ad nd cd ds w W) (hn : ∀ b, (Value.slice An nn cn).ownBlock = some b → b < w.heap.size) (hd : ∀ b, (Value.slice Ad nd cd).ownBlock = some b → b < w.heap.size) :
 nk w0 g dmax An nn cn ns Ad nd cd ds kind a b (.pointer (some ⟨W.heap.size, 0, none⟩)) (W.alloc (.cells #[.string (mkS (nm2 (toL LT) nd)), .int .i64 kind, .int .i64 a, .int .i64 b, .int .i64 0] 57)) := by
 have := h.2
 have hz := h.1.size
 rw [hT]
 exact ⟨W.heap.size, rfl, h.1.alloc _, Blk.new _ _ _, hz, fun q e => by have := hn q e; omega, fun q e => by have := hd q e; omega⟩
theorem rk {a b : Int} {q : Nat} (hT : toL LT = yq kind) (h : oO w0 g dmax An nn cn ns Ad nd cd ds w W) (hB : Blk W q 57 #[.string ⟨#[]⟩, .int .i64 0, .int .i64 0, .int .i64 0, .int .i64 0]) (hq : w.heap.size ≤ q) (hw : w0.heap.size + 4 ≤ w.heap.size) (hn : ∀ b, (Value.slice An nn cn).ownBlock = some b → b < w.heap.size) (hd : ∀ b, (Value.slice Ad nd cd).ownBlock = some b → b < w.heap.size) :
 nk w0 g dmax An nn cn ns Ad nd cd ds kind a b (.pointer (some ⟨q, 0, none⟩)) (((((W.setCell ⟨q, 0, none⟩ (.string (mkS (nm2 (toL LT) nd)))).setCell ⟨q, 1, none⟩ (.int .i64 kind)).setCell ⟨q, 2, none⟩ (.int .i64 a)).setCell ⟨q, 3, none⟩ (.int .i64 b)).setCell ⟨q, 4, none⟩ (.int .i64 0)) := by
 have e1 : ∀ r, (Value.slice An nn cn).ownBlock = some r → r ≠ q := fun r e => by have := hn r e; omega
 have e2 : ∀ r, (Value.slice Ad nd cd).ownBlock = some r → r ≠ q := fun r e => by have := hd r e; omega
 have hq4 : w0.heap.size + 4 ≤ q := by omega
 rw [hT]
 exact ⟨q, rfl, ((((h.1.store hq4 e1 e2).store hq4 e1 e2).store hq4 e1 e2).store hq4 e1 e2).store hq4 e1 e2, ((((hB.set 0 _).set 1 _).set 2 _).set 3 _).set 4 _, hq4, e1, e2⟩
theorem yA.nb_row (h : yA w0 g dmax An nn cn ns Ad nd cd ds W) (hg : W.grownBy W' (Value.slice Ad nd cd).ownBlock) : Blk W' (w0.heap.size + 3) 30 #[.slice An nn cn, .slice Ad nd cd] := h.nb.grown hg (fun e => by have := (h.rd.lt _ e.symm).1; omega)
end
theorem io (w0 : World) (g : Nat) (dmax : Int) (An : Option Addr) (nn cn : Nat) (ns : List Nd) (Ad : Option Addr) (nd cd : Nat) (ds : List Dv) (kind : Nat) (a b : Int) (w : World) (h : yA w0 g dmax An nn cn ns Ad nd cd ds w) (hk : 1 ≤ kind ∧ kind ≤ 6) (hnd : nd < 100) :
 Calls Tryz.prog 44 #[.int .i64 kind, .int .i64 a, .int .i64 b, .pointer (some ⟨w0.heap.size + 3, 0, none⟩), .pointer (some ⟨w0.heap.size + 1, 0, none⟩), .pointer (some ⟨w0.heap.size, 0, none⟩)] w (gC w0 g dmax An nn cn ns nd ds kind a b) := by
 have H := iD h; clear h
 have k1 := H.out.nb.c1
 have k2 := H.out.db.c0
 by_cases h1 : dmax ≤ nd
 ·have q1 : decide (dmax ≤ (nd : Int)) = true := by simpa using h1
  go_enter Tryz.func44, Tryz.ntmps44
  go_wp2_with fail
  go_end0
  exact ⟨rfl, Ad, nd, cd, ds, H.out, fun _ => ⟨rfl, rfl⟩, fun h => absurd h (by omega)⟩
 have q1 : decide (dmax ≤ (nd : Int)) = false := by simpa using h1
 go_enter Tryz.func44, Tryz.ntmps44
 go_upto_region 1 with (fail)
 clear q1 k2
 have hsz := H.out.size
 have HRN := iD (fun b e => (H.out.rn.lt b e).2)
 have HRD := iD (fun b e => (H.out.rd.lt b e).2)
 have hb3 : w0.heap.size + 3 < w.heap.size := by omega
 have hnd' : (nd : Int) ≤ 9223372036854775807 := by omega
 go_cut [9] (fun s9 wc => nk w0 g dmax An nn cn ns Ad nd cd ds kind a b s9 wc)
 case first =>
  have hlet : (#[.string ⟨#[]⟩, .string ⟨#[76]⟩, .string ⟨#[81]⟩, .string ⟨#[68]⟩, .string ⟨#[69]⟩, .string ⟨#[83]⟩, .string ⟨#[71]⟩] : Array Value)[kind]? = some (.string (mkS (yq kind))) := by
   rcases (show kind = 1 ∨ kind = 2 ∨ kind = 3 ∨ kind = 4 ∨ kind = 5 ∨ kind = 6 by omega) with rfl | rfl | rfl | rfl | rfl | rfl <;> rfl
  have hlz : (mkS (yq kind)).size ≤ 1000 := by
   rcases (show kind = 1 ∨ kind = 2 ∨ kind = 3 ∨ kind = 4 ∨ kind = 5 ∨ kind = 6 by omega) with rfl | rfl | rfl | rfl | rfl | rfl <;> decide
  have HT : Hid (toL (mkS (yq kind)) = yq kind) := wb _
  generalize mkS (yq kind) = LT at *
  have hk7 : (kind : Int) < 7 := by omega
  refine zC (S := oO w0 g dmax An nn cn ns Ad nd cd ds w) (J := [13]) (by kernel_rfl) ⟨H.out.drew, Nat.le_refl _⟩ (fun AA => ?_)
  refine ti 1 16 ?_ ?_ AA ?_
  rotate_left
  ·(intro W hSw; clear hSw; go_simp; try with_reducible rfl)
  try simp only [Act.put, sA, sB, sC]
  refine ti 4 19 ?_ ?_ AA ?_
  rotate_left
  ·(intro W hSw; clear hSw; go_simp; try with_reducible rfl)
  try simp only [Act.put, sA, sB, sC]
  refine ti 5 20 ?_ ?_ AA ?_
  rotate_left
  ·(intro W hSw; have k1 : W.cell? ⟨w0.heap.size + 3, 1, none⟩ = some (.slice Ad nd cd) := hSw.1.nb.cell 1; clear hSw; go_simp; try with_reducible rfl)
  try simp only [Act.put, sA, sB, sC]
  refine ti 6 21 ?_ ?_ AA ?_
  rotate_left
  ·(intro W hSw; clear hSw; go_simp; try with_reducible rfl)
  try simp only [Act.put, sA, sB, sC]
  refine ti 8 23 ?_ ?_ AA ?_
  rotate_left
  ·(intro W hSw; clear hSw; go_simp; try with_reducible rfl)
  try simp only [Act.put, sA, sB, sC]
  refine ti 9 24 ?_ ?_ AA ?_
  rotate_left
  ·(intro W hSw; clear hSw; go_simp; try with_reducible rfl)
  try simp only [Act.put, sA, sB, sC]
  refine ti 10 25 ?_ ?_ AA ?_
  rotate_left
  ·(intro W hSw; clear hSw; go_simp; try with_reducible rfl)
  try simp only [Act.put, sA, sB, sC]
  clear k1
  refine uD (i := 0) (k := 12) (by kernel_rfl) rfl rfl (fun K hK => ?_) (fun K hK => ?_)
  ·go_simp
   refine hK.out _ _ (fun _ => ?_) (fun AA' => ?_)
   ·exact uN AA _
   replace AA := AA' rfl
   clear AA' hK K
   try simp only [Act.put, sA, sB, sC]
   refine vJ (kE w0 g dmax An nn cn ns Ad nd cd ds w LT kind w.heap.size) (fun _ h => h.1) ⟨AA, ((Blk.new _ _ _).cell _).trans hlet⟩ (fun AA => ?_)
   refine ti 2 17 ?_ ?_ AA ?_
   rotate_left
   ·(intro W hSw; have kt := hSw.2; clear hSw; go_simp; try with_reducible rfl)
   try simp only [Act.put, sA, sB, sC]
   refine ti 3 18 ?_ ?_ AA ?_
   rotate_left
   ·(intro W hSw; have kt := hSw.2; clear hSw; go_simp; try with_reducible rfl)
   try simp only [Act.put, sA, sB, sC]
   generalize hW1 : World.alloc _ _ = W1 at *
   refine uD (i := 7) (k := 12) (by kernel_rfl) rfl rfl (fun K hK => ?_) (fun K hK => ?_)
   ·go_simp
    refine (xq LT nd _ hlz hnd).mono ?_
    rintro e wa ⟨rfl, hba⟩
    go_simp
    refine hK.out _ _ (fun _ => ?_) (fun AA' => ?_)
    ·exact uM AA hba
    replace AA := AA' rfl
    clear AA' hK K
    try simp only [Act.put, sA, sB, sC]
    refine ti 11 26 ?_ ?_ AA ?_
    rotate_left
    ·(intro W hSw; clear hSw; go_simp; try with_reducible rfl)
    try simp only [Act.put, sA, sB, sC]
    have HNS := iD AA
    refine yJ (k := 12) (by kernel_rfl) rfl (fun K hK => ?_)
    go_simp
    refine hK.out _ _ (fun _ => ?_) (fun AA' => ?_)
    ·exact sq AA _
    replace AA := AA' rfl
    clear AA' hK K
    try simp only [Act.put, sA, sB, sC]
    refine yJ (k := 13) (by kernel_rfl) rfl (fun K hK => ?_)
    go_simp
    refine hK.out _ _ (fun h => by cases h) (fun _ => ?_)
    clear hK K
    try simp only [Act.put, sA, sB, sC]
    refine zA (by kernel_rfl) ?_ _
    go_wp2_with fail
    go_meet
    case rel => exact na HT.out HNS.out.1 HRN.out HRD.out
   ·go_simp
    refine hK.out _ _ (fun _ => ?_) (fun AA' => ?_)
    ·exact sq AA _
    replace AA := AA' rfl
    clear AA' hK K
    try simp only [Act.put, sA, sB, sC]
    have hle9 : w.heap.size ≤ W1.heap.size := by rw [← hW1]; simp
    refine vJ (gD w0 g dmax An nn cn ns Ad nd cd ds w LT kind (w.heap.size) (W1.heap.size)) (fun _ h => h.1) ⟨AA, Blk.new _ _ _⟩ (fun AA => ?_)
    refine yJ (k := 7) (by kernel_rfl) rfl (fun K hK => ?_)
    go_simp
    refine (xq LT nd _ hlz hnd).mono ?_
    rintro e wa ⟨rfl, hba⟩
    go_simp
    refine hK.out _ _ (fun _ => ?_) (fun AA' => ?_)
    ·exact sr AA hba
    replace AA := AA' rfl
    clear AA' hK K
    try simp only [Act.put, sA, sB, sC]
    refine ti 11 26 ?_ ?_ AA ?_
    rotate_left
    ·(intro W hSw; clear hSw; go_simp; try with_reducible rfl)
    try simp only [Act.put, sA, sB, sC]
    have HB9 := iD AA.2
    have HS9 := iD AA.1.1
    have z0 := HB9.out.c0
    have f0 : wa.frozen? ⟨W1.heap.size, 0, none⟩ = false := HB9.out.frozen 0
    have z1 := HB9.out.c1
    have f1 : wa.frozen? ⟨W1.heap.size, 1, none⟩ = false := HB9.out.frozen 1
    have z2 := HB9.out.c2
    have f2 : wa.frozen? ⟨W1.heap.size, 2, none⟩ = false := HB9.out.frozen 2
    have z3 := HB9.out.c3
    have f3 : wa.frozen? ⟨W1.heap.size, 3, none⟩ = false := HB9.out.frozen 3
    have z4 := HB9.out.c4
    have f4 : wa.frozen? ⟨W1.heap.size, 4, none⟩ = false := HB9.out.frozen 4
    refine yJ (k := 13) (by kernel_rfl) rfl (fun K hK => ?_)
    go_simp
    refine hK.out _ _ (fun h => by cases h) (fun _ => ?_)
    clear hK K
    try simp only [Act.put, sA, sB, sC]
    refine zA (by kernel_rfl) ?_ _
    go_wp2_with fail
    go_meet
    case rel => exact rk HT.out HS9.out HB9.out hle9 hsz HRN.out HRD.out
  ·go_simp
   refine hK.out _ _ (fun _ => ?_) (fun AA' => ?_)
   ·exact uN AA _
   replace AA := AA' rfl
   clear AA' hK K
   try simp only [Act.put, sA, sB, sC]
   generalize hW1 : World.alloc _ _ = W1 at *
   have hK1 : Blk W1 w.heap.size 57 #[.string ⟨#[]⟩, .int .i64 0, .int .i64 0, .int .i64 0, .int .i64 0] := by rw [← hW1]; exact Blk.new _ _ _
   have hle9 : w.heap.size ≤ w.heap.size := Nat.le_refl _
   refine yJ (k := 0) (by kernel_rfl) rfl (fun K hK => ?_)
   go_simp
   refine hK.out _ _ (fun _ => ?_) (fun AA' => ?_)
   ·exact uN AA _
   replace AA := AA' rfl
   clear AA' hK K
   try simp only [Act.put, sA, sB, sC]
   refine vJ (gD w0 g dmax An nn cn ns Ad nd cd ds w LT kind (W1.heap.size) (w.heap.size)) (fun _ h => h.1.1) ⟨⟨AA, ((Blk.new _ _ _).cell _).trans hlet⟩, hK1.alloc _⟩ (fun AA => ?_)
   clear hK1
   refine ti 2 17 ?_ ?_ AA ?_
   rotate_left
   ·(intro W hSw; have kt := hSw.1.2; clear hSw; go_simp; try with_reducible rfl)
   try simp only [Act.put, sA, sB, sC]
   refine ti 3 18 ?_ ?_ AA ?_
   rotate_left
   ·(intro W hSw; have kt := hSw.1.2; clear hSw; go_simp; try with_reducible rfl)
   try simp only [Act.put, sA, sB, sC]
   refine yJ (k := 7) (by kernel_rfl) rfl (fun K hK => ?_)
   go_simp
   refine (xq LT nd _ hlz hnd).mono ?_
   rintro e wa ⟨rfl, hba⟩
   go_simp
   refine hK.out _ _ (fun _ => ?_) (fun AA' => ?_)
   ·exact sr AA hba
   replace AA := AA' rfl
   clear AA' hK K
   try simp only [Act.put, sA, sB, sC]
   refine ti 11 26 ?_ ?_ AA ?_
   rotate_left
   ·(intro W hSw; clear hSw; go_simp; try with_reducible rfl)
   try simp only [Act.put, sA, sB, sC]
   have HB9 := iD AA.2
   have HS9 := iD AA.1.1
   have z0 := HB9.out.c0
   have f0 : wa.frozen? ⟨w.heap.size, 0, none⟩ = false := HB9.out.frozen 0
   have z1 := HB9.out.c1
   have f1 : wa.frozen? ⟨w.heap.size, 1, none⟩ = false := HB9.out.frozen 1
   have z2 := HB9.out.c2
   have f2 : wa.frozen? ⟨w.heap.size, 2, none⟩ = false := HB9.out.frozen 2
   have z3 := HB9.out.c3
   have f3 : wa.frozen? ⟨w.heap.size, 3, none⟩ = false := HB9.out.frozen 3
   have z4 := HB9.out.c4
   have f4 : wa.frozen? ⟨w.heap.size, 4, none⟩ = false := HB9.out.frozen 4
   refine yJ (k := 13) (by kernel_rfl) rfl (fun K hK => ?_)
   go_simp
   refine hK.out _ _ (fun h => by cases h) (fun _ => ?_)
   clear hK K
   try simp only [Act.put, sA, sB, sC]
   refine zA (by kernel_rfl) ?_ _
   go_wp2_with fail
   go_meet
   case rel => exact rk HT.out HS9.out HB9.out hle9 hsz HRN.out HRD.out
 case rest =>
  obtain ⟨b9, rfl, hns, hblk, hb4, hn9, hd9⟩ := hcut
  have HST := iD hns; have HBK := iD hblk; have HN9 := iD hn9; have HD9 := iD hd9
  clear hns hblk hn9 hd9
  rename_i wc _
  have kp := HST.out.pb.c0
  go_wp2_with fail
  clear kp
  refine (xk g 8 wc HST.out.deck (by decide)).mono ?_
  rintro e w1 ⟨r, rfl, hd1, hg1, hs1⟩
  have HST1 := iD (HST.out.next hd1.out hg1.out)
  have HBK1 := iD (HBK.out.grown hg1.out (fun e => by have := HST.out.lt; injection e with e; omega))
  clear hd1 hg1 hs1
  rcases r with _ | _
  ·skip
   have kd := HST1.out.nb.c1
   have e0 := HBK1.out.c0
   have e1 := HBK1.out.c1
   have e2 := HBK1.out.c2
   have e3 := HBK1.out.c3
   have e4 := HBK1.out.c4
   have hz4 := HST1.out.size
   go_wp2_with (at_builtin; go_must (refine zR rfl (.tmp 34) (.tmp 36) rfl jd (by rfl) (HST1.out.rd.alloc _) (by rfl) (Sl.newest (n := 1) (by rfl) (by rfl) (by decide)) (by simp [Value.oneCell']) (by omega) (by omega) (by simp; omega) ?_; intro A' cap' w3 hown3 hgr3 hat3; have hnb := (HST1.out.alloc _).nb_row hgr3; have HN3 := iD ((HST1.out.alloc _).dev (x := ⟨mkS (nm2 (yq kind) nd), kind, a, b, 0⟩) hown3 hgr3 hat3); have kn : w3.cell? ⟨w0.heap.size + 3, 1, none⟩ = some (.slice Ad nd cd) := hnb.cell 1; have fn := hnb.frozen 1; clear hown3 hgr3 hat3 hnb))
   go_end0
   exact ⟨rfl, A', nd + 1, cap', _, HN3.out, fun h => absurd h (by omega), fun _ => ⟨rfl, 0, by decide, by decide, rfl⟩⟩
  ·have kp := HST1.out.pb.c0
   go_wp2_with fail
   clear kp
   refine (zS g 2 w1 HST1.out.deck (by decide)).mono ?_
   rintro e w2 ⟨r, rfl, hr0, hr1, hr2, hd2, hg2, hs2⟩
   have hr3 : r < 2 := hr2.out (by decide)
   have HST2 := iD (HST1.out.next hd2.out hg2.out)
   have HBK2 := iD (HBK1.out.grown hg2.out (fun e => by have := HST.out.lt; injection e with e; omega))
   clear hr1 hr2 hd2 hg2 hs2
   have c4 := HBK2.out.c4
   have f4 := HBK2.out.frozen 4
   have HST3 := iD (HST2.out.store (u := .int .i64 (1 + r)) (j := 4) hb4 HN9.out HD9.out)
   have HBK3 := iD (HBK2.out.set 4 (.int .i64 (1 + r)))
   go_upto_region 4 with (fail)
   clear c4 f4
   generalize World.setCell _ _ _ = w4 at *
   have kd := HST3.out.nb.c1
   have e0 := HBK3.out.c0
   have e1 := HBK3.out.c1
   have e2 := HBK3.out.c2
   have e3 := HBK3.out.c3
   have e4 := HBK3.out.c4
   have hz4 := HST3.out.size
   go_wp2_with (at_builtin; go_must (refine zR rfl (.tmp 34) (.tmp 36) rfl jd (by rfl) (HST3.out.rd.alloc _) (by rfl) (Sl.newest (n := 1) (by rfl) (by rfl) (by decide)) (by simp [Value.oneCell']) (by omega) (by omega) (by simp; omega) ?_; intro A' cap' w3 hown3 hgr3 hat3; have hnb := (HST3.out.alloc _).nb_row hgr3; have HN3 := iD ((HST3.out.alloc _).dev (x := ⟨mkS (nm2 (yq kind) nd), kind, a, b, (1 + r)⟩) hown3 hgr3 hat3); have kn : w3.cell? ⟨w0.heap.size + 3, 1, none⟩ = some (.slice Ad nd cd) := hnb.cell 1; have fn := hnb.frozen 1; clear hown3 hgr3 hat3 hnb))
   go_end0
   exact ⟨rfl, A', nd + 1, cap', _, HN3.out, fun h => absurd h (by omega), fun _ => ⟨rfl, 1 + r, by omega, by omega, rfl⟩⟩
end
section
open Go.RowKit
def gn (i : Nat) (x : Nd) : Prop := x.name = mkS (nm2 [78] i) ∧ 0 ≤ x.cust ∧ x.cust ≤ 50 ∧ 0 ≤ x.comp ∧ x.comp ≤ 2
def fg (k i : Nat) (x : Dv) : Prop := x.name = mkS (nm2 (yq x.kind.toNat) i) ∧ 1 ≤ x.kind ∧ x.kind ≤ 6 ∧ wI x.kind x.a x.b k = true ∧ 0 ≤ x.comp ∧ x.comp ≤ 2
def rp (ns : List Nd) : Prop := ∀ i x, ns[i]? = some x → gn i x
def rq (k : Nat) (ds : List Dv) : Prop := ∀ i x, ds[i]? = some x → fg k i x
theorem rp.snoc {ns : List Nd} (h : rp ns) {x : Nd} (hx : gn ns.length x) : rp (ns ++ [x]) := by
 intro i y hy
 rcases Nat.lt_trichotomy i ns.length with h1 | h1 | h1
 ·rw [List.getElem?_append_left h1] at hy; exact h i y hy
 ·subst h1; simp at hy; subst hy; exact hx
 ·rw [List.getElem?_eq_none (by simp; omega)] at hy; cases hy
theorem rq.snoc {k : Nat} {ds : List Dv} (h : rq k ds) {x : Dv} (hx : fg k ds.length x) : rq k (ds ++ [x]) := by
 intro i y hy
 rcases Nat.lt_trichotomy i ds.length with h1 | h1 | h1
 ·rw [List.getElem?_append_left h1] at hy; exact h i y hy
 ·subst h1; simp at hy; subst hy; exact hx
 ·rw [List.getElem?_eq_none (by simp; omega)] at hy; cases hy
def su (lo : Nat) (w0 : World) (g : Nat) (dmax : Int) (An : Option Addr) (k cn : Nat) (ns : List Nd) (w : World) : Prop :=
 ∃ (Ad : Option Addr) (nd cd : Nat) (ds : List Dv), yA w0 g dmax An k cn ns Ad nd cd ds w ∧ (nd : Int) ≤ dmax ∧ lo ≤ nd ∧ ds.length = nd ∧ rq k ds
section
variable {w0 w w' : World} {g lo k cn : Nat} {dmax : Int} {An : Option Addr} {ns : List Nd}
theorem su.next (h : su lo w0 g dmax An k cn ns w) (hd : zP w' g) (hg : w.grownBy w' (some g)) : su lo w0 g dmax An k cn ns w' := by
 obtain ⟨Ad, nd, cd, ds, h1, h2⟩ := h
 exact ⟨Ad, nd, cd, ds, h1.next hd hg, h2⟩
theorem su.deck (h : su lo w0 g dmax An k cn ns w) : zP w g := by
 obtain ⟨Ad, nd, cd, ds, h1, h2⟩ := h
 exact h1.deck
theorem su.pc (h : su lo w0 g dmax An k cn ns w) : w.cell? ⟨w0.heap.size, 0, none⟩ = some (.pointer (some ⟨g, 0, none⟩)) := by
 obtain ⟨Ad, nd, cd, ds, h1, h2⟩ := h
 exact h1.pb.cell 0
def gy (w0 : World) (g : Nat) (dmax : Int) (An : Option Addr) (k cn : Nat) (ns : List Nd) (e : Ending) (w' : World) : Prop := e = .returned (.tuple #[]) ∧ Hid (su 1 w0 g dmax An k cn ns w')
theorem wu (kind a b : Int) (h : su lo w0 g dmax An k cn ns w) (hk : 1 ≤ kind ∧ kind ≤ 6) (hm : 1 ≤ dmax ∧ dmax ≤ 90) (he : wI kind a b k = true) :
 Calls Tryz.prog 44 #[.int .i64 kind, .int .i64 a, .int .i64 b, .pointer (some ⟨w0.heap.size + 3, 0, none⟩), .pointer (some ⟨w0.heap.size + 1, 0, none⟩), .pointer (some ⟨w0.heap.size, 0, none⟩)] w (gy w0 g dmax An k cn ns) := by
 obtain ⟨Ad, nd, cd, ds, h1, h2, h3, h4, h5⟩ := h
 obtain ⟨q, rfl⟩ := Int.eq_ofNat_of_zero_le (show 0 ≤ kind by omega)
 refine (io w0 g dmax An k cn ns Ad nd cd ds q a b w h1 (by omega) (by omega)).mono ?_
 rintro e w1 ⟨rfl, Ad', nd', cd', ds', hs, hA, hB⟩
 refine ⟨rfl, Ad', nd', cd', ds', hs, ?_⟩
 by_cases hc : dmax ≤ nd
 ·obtain ⟨rfl, rfl⟩ := hA hc
  exact ⟨h2, by omega, h4, h5⟩
 ·obtain ⟨rfl, comp, hc0, hc1, rfl⟩ := hB (by omega)
  refine ⟨by omega, by omega, by simp [h4], h5.snoc ?_⟩
  rw [h4]
  exact ⟨rfl, hk.1, hk.2, he, hc0, hc1⟩
end
structure vr (nodes dmax : Int) (ns : List Nd) (ds : List Dv) : Prop where
 n2 : 2 ≤ ns.length
 nm : (ns.length : Int) ≤ nodes
 d1 : 1 ≤ ds.length
 dm : (ds.length : Int) ≤ dmax
 nok : rp ns
 dok : rq ns.length ds
def me (w : World) (g : Nat) (nodes dmax : Int) (e : Ending) (w' : World) : Prop :=
 ∃ (An : Option Addr) (nn cn : Nat) (ns : List Nd) (Ad : Option Addr) (nd cd : Nat) (ds : List Dv), e = .returned (.agg #[.slice An nn cn, .slice Ad nd cd]) ∧ Hid (zP w' g) ∧ Hid (w.grownBy w' (some g)) ∧
  Hid (w'.ownsRow (w.heap.size + 4) 85 3 (.slice An nn cn) nn (ns.flatMap Nd.cells)) ∧ Hid (w'.ownsRow (w.heap.size + 4) 57 5 (.slice Ad nd cd) nd (ds.flatMap Dv.cells)) ∧ Hid (vr nodes dmax ns ds)
theorem oy {w wr : World} {g nn cn : Nat} {nodes dmax : Int} {An : Option Addr} {ns : List Nd} (Ad : Option Addr) (nd cd : Nat) (ds : List Dv) (h : yA w g dmax An nn cn ns Ad nd cd ds wr) (h1 : (nd : Int) ≤ dmax ∧ 1 ≤ nd ∧ ds.length = nd ∧ rq nn ds) (h2 : ns.length = nn ∧ rp ns) (h3 : 2 ≤ nn ∧ (nn : Int) ≤ nodes) (u v : Value) :
 me w g nodes dmax (.returned (.agg #[.slice An nn cn, .slice Ad nd cd])) ((wr.setCell ⟨w.heap.size + 2, 0, none⟩ u).setCell ⟨w.heap.size + 2, 1, none⟩ v) := by
 have hl := h.lt
 have hg1 : wr.grownBy ((wr.setCell ⟨w.heap.size + 2, 0, none⟩ u).setCell ⟨w.heap.size + 2, 1, none⟩ v) (some (w.heap.size + 2)) := ⟨rfl, rfl, rfl, by simp [World.setCell], fun i _ hi => (Below.heap_setCell _ _ _ i (fun e => hi (by rw [e]))).trans (Below.heap_setCell wr _ _ i (fun e => hi (by rw [e])))⟩
 refine ⟨An, nn, cn, ns, Ad, nd, cd, ds, rfl, ?_, ?_, ?_, ?_, ?_⟩
 ·exact (h.deck.setCell (by simp; omega) _).setCell (by simp; omega) _
 ·exact zg (zg h.gr (by simp) _) (by simp) _
 ·exact h.rn.kept hg1 (zk fun b e => by have := (h.rn.lt b e).1; omega)
 ·exact h.rd.kept hg1 (zk fun b e => by have := (h.rd.lt b e).1; omega)
 ·exact ⟨by rw [h2.1]; exact h3.1, by rw [h2.1]; exact h3.2, by omega, by omega, h2.2, by rw [h2.1]; exact h1.2.2.2⟩
end
end Go.Proofs.YtkkobemhbicjgaaGreatDoor
