import Derived.Test.YtepicjpdhpojnaaGreatDoorX31
import Derived.Test.YtepicjpdhpojnaaGreatDoorX24
import Derived.Defers
import Derived.Recover
set_option maxRecDepth 100000
set_option maxHeartbeats 16000000
namespace Go.Proofs.YtepicjpdhpojnaaGreatDoor
section
open Go.RowKit
theorem nZ (k d p q : Int) (w : World) : Calls Tryz.prog 44 #[.agg #[.int .i64 k, .int .i64 d, .int .i64 p, .int .i64 q]] w fun e w' => e = .returned (.bool (xx k p q)) ∧ Below w.heap.size w w' := by
 obtain ⟨u, hu⟩ : ∃ u, u = xx k p q := ⟨_, rfl⟩
 rw [← hu]
 have HBL : Hid (Below w.heap.size w (w.alloc (.cells #[.int .i64 k, .int .i64 d, .int .i64 p, .int .i64 q] 44))) := (Below.refl _ _).alloc lR _
 unfold xx at hu
 by_cases h6 : k = 6
 ·subst h6
  rw [if_pos rfl] at hu
  subst hu
  go_enter Tryz.func44, Tryz.ntmps44
  go_wp2_with fail
  go_ret
  exact ⟨rfl, HBL.out⟩
 rw [if_neg h6] at hu
 have q6 : (k == 6) = false := by simpa using h6
 by_cases h7 : k = 7
 ·subst h7
  rw [if_pos rfl] at hu
  have HU := iD hu
  clear hu h6
  go_enter Tryz.func44, Tryz.ntmps44
  go_wp2_with fail
  go_ret
  exact ⟨by rw [HU.out]; exact zP (by rw [Bool.eq_iff_iff]; simp), HBL.out⟩
 rw [if_neg h7] at hu
 have q7 : (k == 7) = false := by simpa using h7
 have two : ∀ (P0 Q0 : Bool), P0 = decide (p ≠ 0) → Q0 = decide (q ≠ 0) → True := fun _ _ _ _ => trivial
 clear two
 by_cases h2 : k = 2 ∨ k = 4 ∨ k = 5
 ·rw [if_pos h2] at hu
  have HU := iD hu
  clear hu h6 h7
  by_cases hp : p = 0
  ·have qp : (p != 0) = false := by simpa using hp
   have HR : Hid (u = (q != 0)) := by unfold Hid; rw [HU.out, Bool.eq_iff_iff]; simp [hp]
   clear hp
   rcases h2 with rfl | rfl | rfl
   all_goals
    go_enter Tryz.func44, Tryz.ntmps44
    go_wp2_with fail
    go_ret
    exact ⟨by rw [HR.out]; rfl, HBL.out⟩
  ·have qp : (p != 0) = true := by simpa using hp
   have HR : Hid (u = true) := by unfold Hid; rw [HU.out]; simp [hp]
   clear hp
   rcases h2 with rfl | rfl | rfl
   all_goals
    go_enter Tryz.func44, Tryz.ntmps44
    go_wp2_with fail
    go_ret
    exact ⟨by rw [HR.out]; rfl, HBL.out⟩
 ·rw [if_neg h2] at hu
  have q2 : (k == 2) = false := by simp; omega
  have q4 : (k == 4) = false := by simp; omega
  have q5 : (k == 5) = false := by simp; omega
  have HR : Hid (u = (q != 0)) := by unfold Hid; rw [hu, Bool.eq_iff_iff]; simp
  clear hu h6 h7 h2
  go_enter Tryz.func44, Tryz.ntmps44
  go_wp2_with fail
  go_ret
  exact ⟨by rw [HR.out]; rfl, HBL.out⟩
def my (w : World) (n nl nt : Nat) (F : Fd) (e : Ending) (w' : World) : Prop := ∃ (A1 A2 A3 : Option Addr) (c1 c2 c3 : Nat), e = .returned (.agg #[.slice A1 n c1, .slice A2 nl c2, .slice A3 nt c3]) ∧ Hid (zQ w' w.heap.size A1 n c1 F.s) ∧ Hid (yI w' w.heap.size A2 nl c2 F.ls) ∧ Hid (zQ w' w.heap.size A3 nt c3 F.st) ∧ Hid (Below w.heap.size w w')
structure Bc (w : World) (cf : Array Value) (wr : World) : Prop where
 b0 : Blk wr w.heap.size 35 cf
 b1 : Blk wr (w.heap.size + 1) 35 #[.slice none 0 0, .slice none 0 0, .slice none 0 0]
 bl : Below w.heap.size w wr
theorem Bc.new (w : World) (cf : Array Value) : Bc w cf ((w.alloc (.cells cf 35)).alloc (.cells #[.slice none 0 0, .slice none 0 0, .slice none 0 0] 35)) := by
 have e : (w.alloc (.cells cf 35)).heap.size = w.heap.size + 1 := by simp
 refine ⟨(Blk.new w _ _).alloc _, ?_, ((Below.refl _ _).alloc lR _).alloc (by simp) _⟩
 have := Blk.new (w.alloc (.cells cf 35)) 35 #[.slice none 0 0, .slice none 0 0, .slice none 0 0]
 rwa [e] at this
theorem Bc.later {w wr wr' : World} {cf : Array Value} (h : Bc w cf wr) (hb : Below wr.heap.size wr wr') : Bc w cf wr' := ⟨h.b0.below hb h.b0.lt, h.b1.below hb h.b1.lt, h.bl.trans (hb.mono h.bl.size)⟩
theorem Bc.cells {w wr : World} {x y z : Value} (h : Bc w #[x, y, z] wr) : wr.cell? ⟨w.heap.size, 0, none⟩ = some x ∧ wr.cell? ⟨w.heap.size, 1, none⟩ = some y ∧ wr.cell? ⟨w.heap.size, 2, none⟩ = some z := ⟨h.b0.cell 0, h.b0.cell 1, h.b0.cell 2⟩
def Fd3 (w : World) (As : Option Addr) (n c : Nat) (Al : Option Addr) (nl cl : Nat) (At : Option Addr) (nt ct : Nat) (F : Fd) : Prop := Sl w w.heap.size 1 As n c (zK F.s) ∧ Sl w w.heap.size 3 Al nl cl (F.ls.flatMap Lk.cells) ∧ Sl w w.heap.size 1 At nt ct (zK F.st)
theorem yE {w w' : World} {As Al At : Option Addr} {n c nl cl nt ct : Nat} {F : Fd} (h : Fd3 w As n c Al nl cl At nt ct F) (hb : Below w.heap.size w w') : Fd3 w' As n c Al nl cl At nt ct F :=
 ⟨(h.1.below hb lR).more hb.size, (h.2.1.below hb lR).more hb.size, (h.2.2.below hb lR).more hb.size⟩
theorem zm {w : World} {base size n c x i : Nat} {e : TypeId} {A : Option Addr} {xs : List Value} {u : Value} (h : w.ownsRow base e size (.slice A n c) n xs) (hx : x < base) : (w.setCell ⟨x, i, none⟩ u).ownsRow base e size (.slice A n c) n xs :=
 h.kept (zY _ _ _) (zf fun b e => by have := (h.lt b e).1; simp; omega)
theorem qC (As Al At : Option Addr) (n c nl cl nt ct : Nat) (F : Fd) (w : World) (h : Fd3 w As n c Al nl cl At nt ct F) (hn : n ≤ 1000000) (hnl : nl ≤ 1000000) (hnt : nt ≤ 1000000) :
 Calls Tryz.prog 48 #[.agg #[.slice As n c, .slice Al nl cl, .slice At nt ct]] w (my w n nl nt F) := by
 have HLS : Hid (F.s.length = n) := h.1.len (fun _ => rfl) (by decide)
 have HLL : Hid (F.ls.length = nl) := h.2.1.len (fun _ => rfl) (by decide)
 have HLT : Hid (F.st.length = nt) := h.2.2.len (fun _ => rfl) (by decide)
 have HB := iD (Bc.new w #[.slice As n c, .slice Al nl cl, .slice At nt ct])
 have HH := iD h
 clear h
 go_enter Tryz.func48, Tryz.ntmps48
 go_upto_region 1 with (fail)
 generalize World.alloc (World.alloc w _) _ = W at *
 have HB0 := iD (HB.out.later (Below.refl _ _).drew)
 have HM0 := iD (yE HH.out HB0.out.bl)
 refine zJ (S := fun W' => W'.cell? ⟨w.heap.size, 0, none⟩ = some (.slice As n c) ∧ W'.cell? ⟨w.heap.size, 1, none⟩ = some (.slice Al nl cl) ∧ W'.cell? ⟨w.heap.size, 2, none⟩ = some (.slice At nt ct)) (J := [10, 11, 12, 13, 14]) (by kernel_rfl) ?_ (fun AA => ?_)
 ·exact HB.out.cells
 try dsimp only at AA
 refine tk 0 3 (mf 15 1) AA ?_
 refine tk 1 4 (mf 15 2) AA ?_
 refine tk 3 6 #[tt, tt, ff, tt, ff, ff, ff, ff, ff, ff, ff, ff, ff, ff, ff] AA ?_
 refine tk 4 7 #[tt, tt, ff, tt, tt, ff, ff, ff, ff, ff, ff, ff, ff, ff, ff] AA ?_
 refine tk 6 9 #[tt, tt, ff, tt, tt, ff, tt, ff, ff, ff, ff, ff, ff, ff, ff] AA ?_
 refine tk 7 10 #[tt, tt, ff, tt, tt, ff, tt, tt, ff, ff, ff, ff, ff, ff, ff] AA ?_
 refine zG (k := 2) #[tt, tt, tt, tt, tt, ff, tt, tt, ff, ff, ff, ff, ff, ff, ff] (by kernel_rfl) (by kernel_rfl) rfl (fun K hK => ?_)
 (go_simp; refine (x9 As n c _ F.s W.drew HM0.out.1 lR hn).mono ?_; rintro e w1 ⟨A1, c1, rfl, hO1, hb1⟩; rw [HLS.out] at hO1 ⊢; go_simp)
 refine hK.out _ _ (fun _ => ?_) (fun AA' => ?_)
 ·exact (HB0.out.later hb1.out).cells
 replace AA := AA' rfl
 clear AA' hK K
 try dsimp only at AA
 have HB1 := iD (HB0.out.later hb1.out); have HM1 := iD (yE HM0.out hb1.out); have HO1 := iD (hO1.out.mono HB0.out.b1.lt)
 clear hO1 hb1
 refine tk 9 12 #[tt, tt, tt, tt, tt, ff, tt, tt, ff, tt, ff, ff, ff, ff, ff] AA ?_
 refine zG (k := 5) #[tt, tt, tt, tt, tt, tt, tt, tt, ff, tt, ff, ff, ff, ff, ff] (by kernel_rfl) (by kernel_rfl) rfl (fun K hK => ?_)
 (go_simp; refine (vR Al nl cl _ F.ls w1 HM1.out.2.1 lR hnl).mono ?_; rintro e w2 ⟨A2, c2, rfl, hO2, hb2⟩; rw [HLL.out] at hO2 ⊢; go_simp)
 refine hK.out _ _ (fun _ => ?_) (fun AA' => ?_)
 ·exact (HB1.out.later hb2.out).cells
 replace AA := AA' rfl
 clear AA' hK K
 try dsimp only at AA
 have HB2 := iD (HB1.out.later hb2.out); have HM2 := iD (yE HM1.out hb2.out); have HP1 := iD (xE HO1.out hb2.out); have HO2 := iD (World.ownsRow.mono hO2.out HB1.out.b1.lt)
 clear hO2 hb2
 refine zG (k := 8) (mf 15 10) (by kernel_rfl) (by kernel_rfl) rfl (fun K hK => ?_)
 (go_simp; refine (x9 At nt ct _ F.st w2 HM2.out.2.2 lR hnt).mono ?_; rintro e w3 ⟨A3, c3, rfl, hO3, hb3⟩; rw [HLT.out] at hO3 ⊢; go_simp)
 refine hK.out _ _ (fun _ => ?_) (fun AA' => ?_)
 ·exact (HB2.out.later hb3.out).cells
 replace AA := AA' rfl
 clear AA' hK K
 try dsimp only at AA
 have HB3 := iD (HB2.out.later hb3.out); have HQ1 := iD (xE HP1.out hb3.out); have HQ2 := iD (xE HO2.out hb3.out); have HQ3 := iD (hO3.out.mono HB2.out.b1.lt)
 obtain ⟨b0, b1, b2⟩ := HB3.out.cells; have z0 := HB3.out.b0.frozen 0; have z1 := HB3.out.b0.frozen 1; have z2 := HB3.out.b0.frozen 2
 clear hO3 hb3
 refine zG (k := 10) (mf 15 11) (by kernel_rfl) (by kernel_rfl) rfl (fun K hK => ?_)
 go_simp
 refine hK.out _ _ (fun h => by cases h) (fun _ => ?_)
 try clear AA
 clear hK K
 refine zG (k := 11) (mf 15 12) (by kernel_rfl) (by kernel_rfl) rfl (fun K hK => ?_)
 go_simp
 refine hK.out _ _ (fun h => by cases h) (fun _ => ?_)
 try clear AA
 clear hK K
 refine zG (k := 12) (mf 15 13) (by kernel_rfl) (by kernel_rfl) rfl (fun K hK => ?_)
 go_simp
 refine hK.out _ _ (fun h => by cases h) (fun _ => ?_)
 try clear AA
 clear hK K
 refine zG (k := 13) (mf 15 14) (by kernel_rfl) (by kernel_rfl) rfl (fun K hK => ?_)
 go_simp
 refine hK.out _ _ (fun h => by cases h) (fun _ => ?_)
 try clear AA
 clear hK K
 refine zG (k := 14) (mf 15 15) (by kernel_rfl) (by kernel_rfl) rfl (fun K hK => ?_)
 go_simp
 refine hK.out _ _ (fun h => by cases h) (fun _ => ?_)
 try clear AA
 clear hK K
 refine zH (by kernel_rfl) ?_ _
 clear b0 b1 b2 z0 z1 z2
 have HBF : Hid (Bc w #[.slice A1 n c1, .slice A2 nl c2, .slice A3 nt c3] (((w3.setCell ⟨w.heap.size, 0, none⟩ (.slice A1 n c1)).setCell ⟨w.heap.size, 1, none⟩ (.slice A2 nl c2)).setCell ⟨w.heap.size, 2, none⟩ (.slice A3 nt c3))) :=
  ⟨((HB3.out.b0.set 0 _).set 1 _).set 2 _, ((HB3.out.b1.far (by simp) _).far (by simp) _).far (by simp) _, ((HB3.out.bl.setCell (by simp) _).setCell (by simp) _).setCell (by simp) _⟩
 have HR1 := iD (zm (x := w.heap.size) (i := 2) (u := .slice A3 nt c3) (zm (x := w.heap.size) (i := 1) (u := .slice A2 nl c2) (zm (x := w.heap.size) (i := 0) (u := .slice A1 n c1) HQ1.out (by omega)) (by omega)) (by omega))
 have HR2 := iD (zm (x := w.heap.size) (i := 2) (u := .slice A3 nt c3) (zm (x := w.heap.size) (i := 1) (u := .slice A2 nl c2) (zm (x := w.heap.size) (i := 0) (u := .slice A1 n c1) HQ2.out (by omega)) (by omega)) (by omega))
 have HR3 := iD (zm (x := w.heap.size) (i := 2) (u := .slice A3 nt c3) (zm (x := w.heap.size) (i := 1) (u := .slice A2 nl c2) (zm (x := w.heap.size) (i := 0) (u := .slice A1 n c1) HQ3.out (by omega)) (by omega)) (by omega))
 generalize World.setCell (World.setCell (World.setCell w3 _ _) _ _) _ _ = ws at *
 clear HQ1 HQ2 HQ3 HB3 HP1 HO1 HO2
 obtain ⟨b0, b1, b2⟩ := HBF.out.cells
 have z0 := HBF.out.b1.frozen 0; have z1 := HBF.out.b1.frozen 1; have z2 := HBF.out.b1.frozen 2
 have d0 : ws.cell? ⟨w.heap.size + 1, 0, none⟩ = some (.slice none 0 0) := HBF.out.b1.cell 0
 have d1 : ws.cell? ⟨w.heap.size + 1, 1, none⟩ = some (.slice none 0 0) := HBF.out.b1.cell 1
 have d2 : ws.cell? ⟨w.heap.size + 1, 2, none⟩ = some (.slice none 0 0) := HBF.out.b1.cell 2
 go_wp2_with fail
 clear b0 b1 b2 z0 z1 z2
 obtain ⟨x, hx⟩ : ∃ x, x = (((ws.setCell ⟨w.heap.size + 1, 0, none⟩ (.slice A1 n c1)).setCell ⟨w.heap.size + 1, 1, none⟩ (.slice A2 nl c2)).setCell ⟨w.heap.size + 1, 2, none⟩ (.slice A3 nt c3)) := ⟨_, rfl⟩
 have HX : Hid (my w n nl nt F (.returned (.agg #[.slice A1 n c1, .slice A2 nl c2, .slice A3 nt c3])) x) := by
  rw [hx]
  have f := fun {e : TypeId} {size m b : Nat} {A : Option Addr} {xs : List Value} (h : ws.ownsRow (w.heap.size + 1 + 1) e size (.slice A m b) m xs) => zm (x := w.heap.size + 1) (i := 2) (u := .slice A3 nt c3) (zm (x := w.heap.size + 1) (i := 1) (u := .slice A2 nl c2) (zm (x := w.heap.size + 1) (i := 0) (u := .slice A1 n c1) h (Nat.lt_succ_self _)) (Nat.lt_succ_self _)) (Nat.lt_succ_self _)
  exact ⟨A1, A2, A3, c1, c2, c3, rfl, (f HR1.out).mono (Nat.le_add_right _ 2), (f HR2.out).mono (Nat.le_add_right _ 2), (f HR3.out).mono (Nat.le_add_right _ 2), ((HBF.out.bl.setCell (by simp) _).setCell (by simp) _).setCell (by simp) _⟩
 have HD : Hid (Blk x (w.heap.size + 1) 35 #[.slice A1 n c1, .slice A2 nl c2, .slice A3 nt c3]) := by
  unfold Hid; rw [hx]; exact ((HBF.out.b1.set 0 _).set 1 _).set 2 _
 rw [← hx]
 clear hx d0 d1 d2 HR1 HR2 HR3 HBF
 have d0 : x.cell? ⟨w.heap.size + 1, 0, none⟩ = some (.slice A1 n c1) := HD.out.cell 0
 have d1 : x.cell? ⟨w.heap.size + 1, 1, none⟩ = some (.slice A2 nl c2) := HD.out.cell 1
 have d2 : x.cell? ⟨w.heap.size + 1, 2, none⟩ = some (.slice A3 nt c3) := HD.out.cell 2
 exact bodyPost_ret (v := .agg #[.slice A1 n c1, .slice A2 nl c2, .slice A3 nt c3]) (by simp [results, Tryz.results48, go_sem, d0, d1, d2]) rfl HX.out
end
section
open Go.RowKit
structure St5 (w : World) (cn cf ce co : Array Value) (e : Int) (wr : World) : Prop where
 b0 : Blk wr w.heap.size 30 cn
 b1 : Blk wr (w.heap.size + 1) 35 cf
 b2 : Blk wr (w.heap.size + 2) 44 ce
 b3 : Blk wr (w.heap.size + 3) 35 co
 b4 : Blk wr (w.heap.size + 4) 40 #[.int .i64 e]
 bl : Below w.heap.size w wr
theorem St5.new (w : World) (cn cf ce co : Array Value) (e : Int) : St5 w cn cf ce co e (((((w.alloc (.cells cn 30)).alloc (.cells cf 35)).alloc (.cells ce 44)).alloc (.cells co 35)).alloc (.cells #[.int .i64 e] 40)) := by
 have g1 := Blk.new (w.alloc (.cells cn 30)) 35 cf
 have g2 := Blk.new ((w.alloc (.cells cn 30)).alloc (.cells cf 35)) 44 ce
 have g3 := Blk.new (((w.alloc (.cells cn 30)).alloc (.cells cf 35)).alloc (.cells ce 44)) 35 co
 have g4 := Blk.new ((((w.alloc (.cells cn 30)).alloc (.cells cf 35)).alloc (.cells ce 44)).alloc (.cells co 35)) 40 #[.int .i64 e]
 simp only [World.size_alloc] at g1 g2 g3 g4
 exact ⟨((((Blk.new w _ _).alloc _).alloc _).alloc _).alloc _, ((g1.alloc _).alloc _).alloc _, (g2.alloc _).alloc _, g3.alloc _, g4, (((((Below.refl _ _).alloc lR _).alloc (by simp) _).alloc (by simp; omega) _).alloc (by simp; omega) _).alloc (by simp; omega) _⟩
section
variable {w wr wr' : World} {cn cf ce co : Array Value} {e : Int}
theorem St5.later (h : St5 w cn cf ce co e wr) (hb : Below wr.heap.size wr wr') : St5 w cn cf ce co e wr' :=
 ⟨h.b0.below hb h.b0.lt, h.b1.below hb h.b1.lt, h.b2.below hb h.b2.lt, h.b3.below hb h.b3.lt, h.b4.below hb h.b4.lt, h.bl.trans (hb.mono h.bl.size)⟩
theorem St5.grown {x : Nat} (h : St5 w cn cf ce co e wr) (hg : wr.grownBy wr' (some x)) (hx : w.heap.size + 4 < x) : St5 w cn cf ce co e wr' :=
 ⟨h.b0.grown hg (by simp; omega), h.b1.grown hg (by simp; omega), h.b2.grown hg (by simp; omega), h.b3.grown hg (by simp; omega), h.b4.grown hg (by simp; omega), h.bl.trans (yL hg (by omega) h.bl.size)⟩
theorem St5.err (h : St5 w cn cf ce co e wr) (f : Int) : St5 w cn cf ce co f (wr.setCell ⟨w.heap.size + 4, 0, none⟩ (.int .i64 f)) :=
 ⟨h.b0.far (by simp) _, h.b1.far (by simp) _, h.b2.far (by simp) _, h.b3.far (by simp) _, h.b4.set 0 _, h.bl.setCell (by simp) _⟩
theorem St5.out {x y z : Value} (h : St5 w cn cf ce #[x, y, z] e wr) (u v t : Value) : St5 w cn cf ce #[u, v, t] e (((wr.setCell ⟨w.heap.size + 3, 0, none⟩ u).setCell ⟨w.heap.size + 3, 1, none⟩ v).setCell ⟨w.heap.size + 3, 2, none⟩ t) :=
 ⟨((h.b0.far (by simp) _).far (by simp) _).far (by simp) _, ((h.b1.far (by simp) _).far (by simp) _).far (by simp) _, ((h.b2.far (by simp) _).far (by simp) _).far (by simp) _, ((h.b3.set 0 _).set 1 _).set 2 _, ((h.b4.far (by simp) _).far (by simp) _).far (by simp) _, ((h.bl.setCell (by simp) _).setCell (by simp) _).setCell (by simp) _⟩
theorem St5.oc {x y z : Value} (h : St5 w cn cf ce #[x, y, z] e wr) : wr.cell? ⟨w.heap.size + 3, 0, none⟩ = some x ∧ wr.cell? ⟨w.heap.size + 3, 1, none⟩ = some y ∧ wr.cell? ⟨w.heap.size + 3, 2, none⟩ = some z ∧ wr.cell? ⟨w.heap.size + 4, 0, none⟩ = some (.int .i64 e) := ⟨h.b3.cell 0, h.b3.cell 1, h.b3.cell 2, h.b4.cell 0⟩
theorem St5.oz (h : St5 w cn cf ce co e wr) : wr.frozen? ⟨w.heap.size + 3, 0, none⟩ = false ∧ wr.frozen? ⟨w.heap.size + 3, 1, none⟩ = false ∧ wr.frozen? ⟨w.heap.size + 3, 2, none⟩ = false ∧ wr.frozen? ⟨w.heap.size + 4, 0, none⟩ = false := ⟨h.b3.frozen 0, h.b3.frozen 1, h.b3.frozen 2, h.b4.frozen 0⟩
end
theorem lp (eb ob : Nat) (u : FrameMode) (w : World) (hc : w.cell? ⟨eb, 0, none⟩ = some (.int .i64 0)) :
 CallsD Tryz.prog 43 #[.pointer (some ⟨eb, 0, none⟩), .pointer (some ⟨ob, 0, none⟩)] u w fun e u' w' => u' = u ∧ (e = .returned (.tuple #[]) ∧ w' = w) := by
 go_enter_d Tryz.func43, Tryz.ntmps43
 go_wp2_with fail
 go_end0
 exact ⟨rfl, rfl⟩
theorem uo (eb ob : Nat) (err : Int) (x y z : Value) (u : FrameMode) (w : World) (he : err ≠ 0) (hc : w.cell? ⟨eb, 0, none⟩ = some (.int .i64 err)) (h0 : w.cell? ⟨ob, 0, none⟩ = some x) (h1 : w.cell? ⟨ob, 1, none⟩ = some y) (h2 : w.cell? ⟨ob, 2, none⟩ = some z)
 (z0 : w.frozen? ⟨ob, 0, none⟩ = false) (z1 : w.frozen? ⟨ob, 1, none⟩ = false) (z2 : w.frozen? ⟨ob, 2, none⟩ = false) :
 CallsD Tryz.prog 43 #[.pointer (some ⟨eb, 0, none⟩), .pointer (some ⟨ob, 0, none⟩)] u w fun e u' w' => u' = u ∧ (e = .returned (.tuple #[]) ∧ w' = ((w.setCell ⟨ob, 0, none⟩ (.slice none 0 0)).setCell ⟨ob, 1, none⟩ (.slice none 0 0)).setCell ⟨ob, 2, none⟩ (.slice none 0 0)) := by
 have q : (err != 0) = true := by simpa using he
 clear he
 go_enter_d Tryz.func43, Tryz.ntmps43
 go_wp2_with fail
 go_end0
 exact ⟨rfl, rfl⟩
theorem sI {w : World} {sb nn cn nd cd n c nl cl nt ct : Nat} {An Ad As Al At : Option Addr} {k d p q : Int} {lk sk : Bool} (h : Blk w sb 90 (scV An nn cn Ad nd cd As n c Al nl cl At nt ct k d p q lk sk)) :
 w.cell? ⟨sb, 2, none⟩ = some (.slice As n c) ∧ w.cell? ⟨sb, 3, none⟩ = some (.slice Al nl cl) ∧ w.cell? ⟨sb, 4, none⟩ = some (.slice At nt ct) := by
 unfold scV at h
 exact ⟨h.cell 2, h.cell 3, h.cell 4⟩
def xo (w : World) (ns : List Nd) (ds : List Dv) (F : Fd) (k d p q : Int) (e : Ending) (w' : World) : Prop :=
 ((zR ns ds F k d p q ≠ 0 ∧ e = .returned (.tuple #[.agg #[.slice none 0 0, .slice none 0 0, .slice none 0 0], .int .i64 (zR ns ds F k d p q)])) ∨
  zR ns ds F k d p q = 0 ∧ ∃ (A1 A2 A3 : Option Addr) (n1 c1 n2 c2 n3 c3 : Nat), e = .returned (.tuple #[.agg #[.slice A1 n1 c1, .slice A2 n2 c2, .slice A3 n3 c3], .int .i64 0]) ∧ Hid (zQ w' w.heap.size A1 n1 c1 (yu ds F k d p q).s) ∧ Hid (yI w' w.heap.size A2 n2 c2 (yu ds F k d p q).ls) ∧ Hid (zQ w' w.heap.size A3 n3 c3 (yu ds F k d p q).st)) ∧ Hid (Below w.heap.size w w')
theorem pP {nd : Nat} {st : List Int} (h : xh nd st) : st.length ≤ nd := by
 have h1 : st.Nodup := h.srt.imp fun h => by omega
 have h2 : (rY nd).length = nd := by unfold rY; simp
 have := h1.length_le_of_subset (l₂ := rY nd) fun x hx => rX.2 (h.mem hx)
 omega
theorem tx {ns : List Nd} {ds : List Dv} {F : Fd} (h : zk ns ds F = 0) : ds.length ≤ 64 ∧ F.s.length ≤ 64 ∧ F.ls.length ≤ 128 ∧ F.st.length ≤ 64 := by
 obtain ⟨h1, h2, -, h4⟩ := yo h
 obtain ⟨h5, h6, -⟩ := yD h1
 have h7 : ds.length ≤ 64 := by
  unfold zX at h5
  split at h5
  ·cases h5
  ·split at h5
   ·cases h5
   ·omega
 have := (y8 h2).1
 have := pP h4
 omega
def oY (K : Act → World → Prop) : Exit → Act → World → Prop
 | .normal, a, w => K a w
 | _, _, _ => False
theorem mT {P : Program} {c : Code} {K : Act → World → Prop} {Q' : Exit → Act → World → Prop} {a : Act} {w : World} (h : c.wp P (oY K) a w) : c.wp P (Exit.then K Q') a w := by
 refine wp_mono h ?_
 intro e a' w' hq
 cases e with
 | normal => exact hq
 | _ => exact hq.elim
theorem oY.intro {K : Act → World → Prop} {a : Act} {w : World} (h : K a w) : oY K .normal a w := h
theorem vm (An Ad As Al At : Option Addr) (nn cn nd cd n c nl cl nt ct : Nat) (ns : List Nd) (ds : List Dv) (F : Fd) (k d p q : Int) (w : World) (h : FdM w An Ad As Al At nn cn nd cd n c nl cl nt ct ns ds F) :
 Calls Tryz.prog 15 #[.agg #[.slice An nn cn, .slice Ad nd cd], .agg #[.slice As n c, .slice Al nl cl, .slice At nt ct], .agg #[.int .i64 k, .int .i64 d, .int .i64 p, .int .i64 q]] w (xo w ns ds F k d p q) := by
 obtain ⟨-, hl2, hl3, hl4, hl5⟩ := h.ln
 have HL2 := iD hl2; have HL3 := iD hl3; have HL4 := iD hl4; have HL5 := iD hl5
 have hdm := h.hd.le
 have HB : Hid (St5 w #[.slice An nn cn, .slice Ad nd cd] #[.slice As n c, .slice Al nl cl, .slice At nt ct] #[.int .i64 k, .int .i64 d, .int .i64 p, .int .i64 q] #[.slice none 0 0, .slice none 0 0, .slice none 0 0] 0 _) := St5.new w #[.slice An nn cn, .slice Ad nd cd] #[.slice As n c, .slice Al nl cl, .slice At nt ct] #[.int .i64 k, .int .i64 d, .int .i64 p, .int .i64 q] #[.slice none 0 0, .slice none 0 0, .slice none 0 0] 0
 have HH := iD h
 have hmf : ∀ (fn : Fn) (first cap : Array Value) (w : World), (Instr.makeFunc fn first cap).run Tryz.prog w = .ok (.func fn first cap) w := fun _ _ _ _ => rfl
 clear h hl2 hl3 hl4 hl5
 go_enter_defers Tryz.func15, Tryz.ntmps15
 go_upto_region 1 with (fail)
 rw [show w.heap.size + 1 + 1 + 1 + 1 = w.heap.size + 4 from rfl, show w.heap.size + 1 + 1 + 1 = w.heap.size + 3 from rfl, show w.heap.size + 1 + 1 = w.heap.size + 2 from rfl]
 generalize World.alloc (World.alloc (World.alloc (World.alloc (World.alloc w _) _) _) _) _ = w1 at *
 have HM1 := iD (HH.out.later HB.out.bl)
 have k0 : w1.cell? ⟨w.heap.size, 0, none⟩ = some (.slice An nn cn) := HB.out.b0.cell 0
 have k1 : w1.cell? ⟨w.heap.size, 1, none⟩ = some (.slice Ad nd cd) := HB.out.b0.cell 1
 have f0 : w1.cell? ⟨w.heap.size + 1, 0, none⟩ = some (.slice As n c) := HB.out.b1.cell 0
 have f1 : w1.cell? ⟨w.heap.size + 1, 1, none⟩ = some (.slice Al nl cl) := HB.out.b1.cell 1
 have f2 : w1.cell? ⟨w.heap.size + 1, 2, none⟩ = some (.slice At nt ct) := HB.out.b1.cell 2
 go_wp2_with fail
 clear k0 k1 f0 f1 f2
 refine (vG An Ad As Al At nn cn nd cd n c nl cl nt ct ns ds F w1 HM1.out).mono ?_
 rintro e w2 ⟨rfl, hb2⟩
 obtain ⟨E, hE⟩ : ∃ E, E = zk ns ds F := ⟨_, rfl⟩
 rw [← hE]
 have HE := iD hE
 have HB2 := iD (HB.out.later hb2)
 have g4 := HB2.out.oc.2.2.2; have z4 := HB2.out.oz.2.2.2
 have HS3 := iD (HB2.out.err E)
 clear hE hb2 HB HM1
 go_upto_region 2 with (fail)
 clear g4 z4 HB2
 generalize World.setCell w2 _ _ = w3 at *
 have g4 := HS3.out.oc.2.2.2
 by_cases h0 : E = 0; rotate_left
 ·have q0 : (E != 0) = true := by simpa using h0
  have HR : Hid (zR ns ds F k d p q = E) := by unfold Hid zR; rw [← HE.out, if_pos h0]
  have HNZ := iD h0
  clear h0
  have HSD := iD (HS3.out.later (Below.refl _ _).drew)
  obtain ⟨d0, d1, d2, -⟩ := HS3.out.oc
  obtain ⟨y0, y1, y2, -⟩ := HS3.out.oz
  go_wp2_with fail
  refine mT ?_
  refine zJ (S := fun W' => W'.cell? ⟨w.heap.size + 4, 0, none⟩ = some (.int .i64 E)) (J := [3]) (by kernel_rfl) ?_ (fun AA => ?_)
  ·exact HS3.out.oc.2.2.2
  try dsimp only at AA
  refine tk 0 18 (mf 4 1) AA ?_
  refine tk 1 19 (mf 4 2) AA ?_
  refine zG (k := 2) (mf 4 3) (by kernel_rfl) (by kernel_rfl) rfl (fun K hK => ?_)
  go_simp
  refine hK.out _ _ (fun _ => ?_) (fun AA' => ?_)
  ·exact (HSD.out.out (.slice none 0 0) (.slice none 0 0) (.slice none 0 0)).oc.2.2.2
  replace AA := AA' rfl
  clear AA' hK K
  try dsimp only at AA
  have HSE := iD ((HS3.out.out (.slice none 0 0) (.slice none 0 0) (.slice none 0 0)).later (Below.refl _ _).drew)
  generalize World.drew (World.setCell (World.setCell (World.setCell w3 _ _) _ _) _ _) = wz at *
  have g4 := HSE.out.oc.2.2.2; have z4 := HSE.out.oz.2.2.2
  refine zG (k := 3) (mf 4 4) (by kernel_rfl) (by kernel_rfl) rfl (fun K hK => ?_)
  go_simp
  refine hK.out _ _ (fun h => by cases h) (fun _ => ?_)
  try clear AA
  clear hK K
  refine zH (by kernel_rfl) ?_ _
  refine oY.intro ?_
  go_wp2_with fail
  have HSF := iD (HSE.out.err E)
  generalize World.setCell wz _ _ = wy at *
  obtain ⟨t0, t1, t2, t3⟩ := HSF.out.oc
  exact ⟨.tuple #[.agg #[.slice none 0 0, .slice none 0 0, .slice none 0 0], .int .i64 E], by simp [results, Tryz.results15, go_sem, t0, t1, t2, t3], .inl ⟨by rw [HR.out]; exact HNZ.out, by rw [HR.out]⟩, HSF.out.bl⟩
 subst h0
 have e0 : w3.cell? ⟨w.heap.size + 2, 0, none⟩ = some (.int .i64 k) := HS3.out.b2.cell 0
 have e1 : w3.cell? ⟨w.heap.size + 2, 1, none⟩ = some (.int .i64 d) := HS3.out.b2.cell 1
 have e2 : w3.cell? ⟨w.heap.size + 2, 2, none⟩ = some (.int .i64 p) := HS3.out.b2.cell 2
 have e3 : w3.cell? ⟨w.heap.size + 2, 3, none⟩ = some (.int .i64 q) := HS3.out.b2.cell 3
 have k1 : w3.cell? ⟨w.heap.size, 1, none⟩ = some (.slice Ad nd cd) := HS3.out.b0.cell 1
 by_cases hd0 : d < 0
 ·have q0 : decide (d < 0) = true := by simpa using hd0
  have HR : Hid (zR ns ds F k d p q = 8) := by unfold Hid zR; rw [if_neg (by rw [← HE.out]; simp), if_pos (.inl hd0)]
  clear hd0
  obtain ⟨d0, d1, d2, d3⟩ := HS3.out.oc
  obtain ⟨y0, y1, y2, y3⟩ := HS3.out.oz
  have HSY := iD ((HS3.out.out (.slice none 0 0) (.slice none 0 0) (.slice none 0 0)).err 8)
  go_wp2_with fail
  clear d0 d1 d2 d3 y0 y1 y2 y3
  generalize World.setCell (World.setCell (World.setCell (World.setCell w3 _ _) _ _) _ _) _ _ = wy at *
  refine leaves_cons (f := 43) (args := #[.pointer (some ⟨w.heap.size + 4, 0, none⟩), .pointer (some ⟨w.heap.size + 3, 0, none⟩)]) (by simp) (by simp [go_sem]) ?_
  refine (uo (w.heap.size + 4) (w.heap.size + 3) _ _ _ _ _ _ (by decide) HSY.out.oc.2.2.2 HSY.out.oc.1 HSY.out.oc.2.1 HSY.out.oc.2.2.1 HSY.out.oz.1 HSY.out.oz.2.1 HSY.out.oz.2.2.1).mono ?_
  rintro e u' w'' ⟨rfl, rfl, rfl⟩
  have HSZ := iD (HSY.out.out (.slice none 0 0) (.slice none 0 0) (.slice none 0 0))
  generalize World.setCell (World.setCell (World.setCell _ _ _) _ _) _ _ = wz at *
  obtain ⟨t0, t1, t2, t3⟩ := HSZ.out.oc
  refine ⟨.tuple #[.agg #[.slice none 0 0, .slice none 0 0, .slice none 0 0], .int .i64 8], by simp [results, Tryz.results15, go_sem, t0, t1, t2, t3], .inl ⟨by rw [HR.out]; decide, by rw [HR.out]⟩, HSZ.out.bl⟩
 have q0 : decide (d < 0) = false := by simpa using hd0
 by_cases hd1 : (nd : Int) ≤ d
 ·have q1 : decide ((nd : Int) ≤ d) = true := by simpa using hd1
  have HR : Hid (zR ns ds F k d p q = 8) := by unfold Hid zR; rw [if_neg (by rw [← HE.out]; simp), if_pos (.inr (by rw [HL2.out]; exact hd1))]
  clear hd0 hd1
  obtain ⟨d0, d1, d2, d3⟩ := HS3.out.oc
  obtain ⟨y0, y1, y2, y3⟩ := HS3.out.oz
  have HSY := iD ((HS3.out.out (.slice none 0 0) (.slice none 0 0) (.slice none 0 0)).err 8)
  go_wp2_with fail
  clear d0 d1 d2 d3 y0 y1 y2 y3
  generalize World.setCell (World.setCell (World.setCell (World.setCell w3 _ _) _ _) _ _) _ _ = wy at *
  refine leaves_cons (f := 43) (args := #[.pointer (some ⟨w.heap.size + 4, 0, none⟩), .pointer (some ⟨w.heap.size + 3, 0, none⟩)]) (by simp) (by simp [go_sem]) ?_
  refine (uo (w.heap.size + 4) (w.heap.size + 3) _ _ _ _ _ _ (by decide) HSY.out.oc.2.2.2 HSY.out.oc.1 HSY.out.oc.2.1 HSY.out.oc.2.2.1 HSY.out.oz.1 HSY.out.oz.2.1 HSY.out.oz.2.2.1).mono ?_
  rintro e u' w'' ⟨rfl, rfl, rfl⟩
  have HSZ := iD (HSY.out.out (.slice none 0 0) (.slice none 0 0) (.slice none 0 0))
  generalize World.setCell (World.setCell (World.setCell _ _ _) _ _) _ _ = wz at *
  obtain ⟨t0, t1, t2, t3⟩ := HSZ.out.oc
  refine ⟨.tuple #[.agg #[.slice none 0 0, .slice none 0 0, .slice none 0 0], .int .i64 8], by simp [results, Tryz.results15, go_sem, t0, t1, t2, t3], .inl ⟨by rw [HR.out]; decide, by rw [HR.out]⟩, HSZ.out.bl⟩
 have q1 : decide ((nd : Int) ≤ d) = false := by simpa using hd1
 obtain ⟨d, rfl⟩ := Int.eq_ofNat_of_zero_le (show 0 ≤ d by omega)
 have hdn : d < ds.length := by rw [HL2.out]; omega
 have q1n : decide (nd ≤ d) = false := by simp; omega
 have HRU : Hid (zR ns ds F k d p q = if xx k p q = true then 14 else yB ns ds F k d p q) := by unfold Hid zR; rw [if_neg (by rw [← HE.out]; simp), if_neg (by omega)]
 clear hd0 hd1
 go_wp2_with fail
 refine (nZ k d p q w3).mono ?_
 rintro e w4 ⟨rfl, hb4⟩
 have HS4 := iD (HS3.out.later hb4)
 clear hb4 HS3 e0 e1 e2 e3 k1 q0 q1 g4
 rcases hu : xx k p q with _ | _; rotate_left
 ·have HR : Hid (zR ns ds F k d p q = 14) := by unfold Hid; rw [HRU.out, if_pos hu]
  clear hu HRU
  obtain ⟨d0, d1, d2, d3⟩ := HS4.out.oc
  obtain ⟨y0, y1, y2, y3⟩ := HS4.out.oz
  have HSY := iD ((HS4.out.out (.slice none 0 0) (.slice none 0 0) (.slice none 0 0)).err 14)
  go_wp2_with fail
  clear d0 d1 d2 d3 y0 y1 y2 y3
  generalize World.setCell (World.setCell (World.setCell (World.setCell w4 _ _) _ _) _ _) _ _ = wy at *
  refine leaves_cons (f := 43) (args := #[.pointer (some ⟨w.heap.size + 4, 0, none⟩), .pointer (some ⟨w.heap.size + 3, 0, none⟩)]) (by simp) (by simp [go_sem]) ?_
  refine (uo (w.heap.size + 4) (w.heap.size + 3) _ _ _ _ _ _ (by decide) HSY.out.oc.2.2.2 HSY.out.oc.1 HSY.out.oc.2.1 HSY.out.oc.2.2.1 HSY.out.oz.1 HSY.out.oz.2.1 HSY.out.oz.2.2.1).mono ?_
  rintro e u' w'' ⟨rfl, rfl, rfl⟩
  have HSZ := iD (HSY.out.out (.slice none 0 0) (.slice none 0 0) (.slice none 0 0))
  generalize World.setCell (World.setCell (World.setCell _ _ _) _ _) _ _ = wz at *
  obtain ⟨t0, t1, t2, t3⟩ := HSZ.out.oc
  refine ⟨.tuple #[.agg #[.slice none 0 0, .slice none 0 0, .slice none 0 0], .int .i64 14], by simp [results, Tryz.results15, go_sem, t0, t1, t2, t3], .inl ⟨by rw [HR.out]; decide, by rw [HR.out]⟩, HSZ.out.bl⟩
 have HR : Hid (zR ns ds F k d p q = yB ns ds F k d p q) := by unfold Hid; rw [HRU.out, if_neg (by simp [hu])]
 clear hu HRU
 obtain ⟨hzE, hzL, -, hzS⟩ := yo HE.out.symm
 obtain ⟨hs1, hs2, hs3, hs4⟩ := tx HE.out.symm
 have HM4 := iD (HH.out.later HS4.out.bl)
 have HSS := iD hzS
 have e1 : w4.cell? ⟨w.heap.size + 2, 1, none⟩ = some (.int .i64 (d : Int)) := HS4.out.b2.cell 1
 have f1 : w4.cell? ⟨w.heap.size + 1, 1, none⟩ = some (.slice Al nl cl) := HS4.out.b1.cell 1
 clear hzE hzL hzS
 go_wp2_with fail
 clear e1 f1
 refine (tU Al nl cl w4.heap.size F.ls d w4 HM4.out.hl lR).mono ?_
 rintro e w5 ⟨rfl, hb5⟩
 have HS5 := iD (HS4.out.later hb5)
 have HM5 := iD (HM4.out.later hb5)
 clear hb5 HS4 HM4
 unfold uD
 obtain ⟨lk, hlk⟩ : ∃ x, x = (yw F.ls (d : Int)).isSome := ⟨_, rfl⟩
 rw [← hlk]
 have HLK := iD hlk
 clear hlk
 have e1 : w5.cell? ⟨w.heap.size + 2, 1, none⟩ = some (.int .i64 (d : Int)) := HS5.out.b2.cell 1
 have f2 : w5.cell? ⟨w.heap.size + 1, 2, none⟩ = some (.slice At nt ct) := HS5.out.b1.cell 2
 go_wp2_with fail
 clear e1 f2
 refine (sr At nt ct w5.heap.size F.st d w5 HM5.out.ht (by have := HL5.out; omega) HSS.out.srt).mono ?_
 rintro e w6 ⟨rfl, m, rfl⟩
 have HS6 := iD (HS5.out.later (below_drewN bR m))
 have HM6 := iD (HM5.out.later (below_drewN bR m))
 generalize World.drewN w5 m = w6 at *
 obtain ⟨sk, hsk⟩ : ∃ x, x = decide ((d : Int) ∈ F.st) := ⟨_, rfl⟩
 rw [← hsk]
 have HSK := iD hsk
 clear hsk HS5 HM5
 have e0 : w6.cell? ⟨w.heap.size + 2, 0, none⟩ = some (.int .i64 k) := HS6.out.b2.cell 0
 have e1 : w6.cell? ⟨w.heap.size + 2, 1, none⟩ = some (.int .i64 (d : Int)) := HS6.out.b2.cell 1
 have e2 : w6.cell? ⟨w.heap.size + 2, 2, none⟩ = some (.int .i64 p) := HS6.out.b2.cell 2
 have e3 : w6.cell? ⟨w.heap.size + 2, 3, none⟩ = some (.int .i64 q) := HS6.out.b2.cell 3
 have k0 : w6.cell? ⟨w.heap.size, 0, none⟩ = some (.slice An nn cn) := HS6.out.b0.cell 0
 have k1 : w6.cell? ⟨w.heap.size, 1, none⟩ = some (.slice Ad nd cd) := HS6.out.b0.cell 1
 have f0 : w6.cell? ⟨w.heap.size + 1, 0, none⟩ = some (.slice As n c) := HS6.out.b1.cell 0
 have f1 : w6.cell? ⟨w.heap.size + 1, 1, none⟩ = some (.slice Al nl cl) := HS6.out.b1.cell 1
 have f2 : w6.cell? ⟨w.heap.size + 1, 2, none⟩ = some (.slice At nt ct) := HS6.out.b1.cell 2
 go_upto_region 12 with (fail)
 clear e0 e1 e2 e3 k0 k1 f0 f1 f2
 have HSC : Hid (Blk (w6.alloc (.cells (scV An nn cn Ad nd cd As n c Al nl cl At nt ct k d p q lk sk) 90)) w6.heap.size 90 (scV An nn cn Ad nd cd As n c Al nl cl At nt ct k d p q lk sk)) := Blk.new _ _ _
 have HBA : Hid (Below w6.heap.size w6 (w6.alloc (.cells (scV An nn cn Ad nd cd As n c Al nl cl At nt ct k d p q lk sk) 90))) := (Below.refl _ _).alloc lR _
 have HS7 := iD (HS6.out.later HBA.out)
 have HSL : Hid (w.heap.size + 4 < w6.heap.size) := HS6.out.b4.lt
 have HSC0 : Hid (vt (w6.alloc (.cells (scV An nn cn Ad nd cd As n c Al nl cl At nt ct k d p q lk sk) 90)) w.heap.size w6.heap.size An nn cn ns Ad nd cd ds As n c Al nl cl At nt ct F k d p q lk sk) :=
  ⟨HSC.out, HH.out.hn.below HS7.out.bl lR, HH.out.hd.below HS7.out.bl lR, HH.out.hs.below HS7.out.bl lR, HH.out.hl.below HS7.out.bl lR, HH.out.ht.below HS7.out.bl lR, (by have := HSL.out; omega), HM6.out.la.below HBA.out lR, HM6.out.sn, HM6.out.sd, by have := HL3.out; have := HL4.out; have := HL5.out; omega⟩
 unfold scV at HSC0 HS7
 clear HSC HBA HM6 HS6
 generalize World.alloc w6 _ = wa at *
 obtain ⟨sb, hsb⟩ : ∃ x, x = w6.heap.size := ⟨_, rfl⟩
 rw [← hsb] at HSC0 HSL ⊢
 clear hsb
 have HSC1 : Hid (vt wa w.heap.size sb An nn cn ns Ad nd cd ds As n c Al nl cl At nt ct F k d p q lk sk) := HSC0.out
 clear HSC0
 go_wp2_with fail
 refine (mF w.heap.size sb An Ad As Al At nn cn nd cd n c nl cl nt ct ns ds F k p q d lk sk wa HSC1.out HLK.out HSK.out HE.out.symm hdn (by have := HL3.out; omega) (by have := HL5.out; omega)).mono ?_
 rintro e wb ⟨rfl, F', ⟨hgr, As', n', c', Al', nl', cl', At', nt', ct', hbk, hq1, hq2, hq3, hbn⟩, hF'⟩
 obtain ⟨E, hE⟩ : ∃ E, E = yB ns ds F k d p q := ⟨_, rfl⟩
 rw [← hE] at hF' ⊢
 have HEV := iD hE
 have HSb := iD (HS7.out.grown hgr.out HSL.out)
 have g4 := HSb.out.oc.2.2.2; have z4 := HSb.out.oz.2.2.2
 have HS7 := iD (HSb.out.err E)
 have HSC := iD (hbk.out.far (p := ⟨w.heap.size + 4, 0, none⟩) (by have := HSL.out; simp; omega) (.int .i64 E))
 have HF := iD hF'; have HBN := iD hbn.out
 have HFD0 : Hid (Fd3 (wb.setCell ⟨w.heap.size + 4, 0, none⟩ (.int .i64 E)) As' n' c' Al' nl' cl' At' nt' ct' F') := ⟨(hq1.out.2 (w.heap.size + 4) 0 (.int .i64 E) (by omega) HSL.out).more (by simp), (hq2.out.2 (w.heap.size + 4) 0 (.int .i64 E) (by omega) HSL.out).more (by simp), (hq3.out.2 (w.heap.size + 4) 0 (.int .i64 E) (by omega) HSL.out).more (by simp)⟩
 have HLF : Hid (F'.s.length = n' ∧ F'.ls.length = nl' ∧ F'.st.length = nt') := ⟨hq1.out.1.len (fun _ => rfl) (by decide), hq2.out.1.len (fun _ => rfl) (by decide), hq3.out.1.len (fun _ => rfl) (by decide)⟩
 clear hE hbk hq1 hq2 hq3 hbn hF' hgr HSC1 HSb
 go_upto_region 13 with (fail)
 clear g4 z4
 generalize World.setCell wb _ _ = w7 at *
 have HS7D := iD (HS7.out.later (Below.refl _ _).drew)
 have HFD := iD (yE HFD0.out (Below.refl _ _).drew)
 have HSCD := iD (HSC.out.below (Below.refl _ _).drew HSC.out.lt)
 have HSB4 : Hid (w.heap.size + 5 ≤ w7.drew.heap.size) := HS7D.out.b4.lt
 go_wp2_with fail
 refine mT ?_
 refine zJ (S := fun W' => (W'.cell? ⟨sb, 2, none⟩ = some (.slice As' n' c') ∧ W'.cell? ⟨sb, 3, none⟩ = some (.slice Al' nl' cl') ∧ W'.cell? ⟨sb, 4, none⟩ = some (.slice At' nt' ct')) ∧ W'.cell? ⟨w.heap.size + 4, 0, none⟩ = some (.int .i64 E)) (J := [7]) (by kernel_rfl) ?_ (fun AA => ?_)
 ·exact ⟨sI HSC.out, HS7.out.oc.2.2.2⟩
 try dsimp only at AA
 refine tk 0 63 (mf 8 1) AA ?_
 refine tk 1 64 (mf 8 2) AA ?_
 refine tk 2 65 (mf 8 3) AA ?_
 refine tk 3 66 (mf 8 4) AA ?_
 refine tk 5 68 #[tt, tt, tt, tt, ff, tt, ff, ff] AA ?_
 refine zG (k := 4) (mf 8 6) (by kernel_rfl) (by kernel_rfl) rfl (fun K hK => ?_)
 (go_simp; refine (qC As' Al' At' n' c' nl' cl' nt' ct' F' w7.drew HFD.out HBN.out.1 HBN.out.2.1 HBN.out.2.2).mono ?_; rintro e w8 ⟨A1, A2, A3, c1, c2, c3, rfl, hO1, hO2, hO3, hb8⟩; go_simp)
 refine hK.out _ _ (fun _ => ?_) (fun AA' => ?_)
 ·exact ⟨sI (HSCD.out.below hb8.out HSCD.out.lt), (HS7D.out.later hb8.out).oc.2.2.2⟩
 replace AA := AA' rfl
 clear AA' hK K
 try dsimp only at AA
 have HS8 := iD (HS7D.out.later hb8.out); have HSC8 := iD (HSCD.out.below hb8.out HSCD.out.lt); have HO1 := iD (hO1.out.mono HSB4.out); have HO2 := iD (World.ownsRow.mono hO2.out HSB4.out); have HO3 := iD (hO3.out.mono HSB4.out)
 clear hO1 hO2 hO3 hb8
 obtain ⟨d0, d1, d2, -⟩ := HS8.out.oc; obtain ⟨y0, y1, y2, -⟩ := HS8.out.oz
 refine zG (k := 6) (mf 8 7) (by kernel_rfl) (by kernel_rfl) rfl (fun K hK => ?_)
 go_simp
 refine hK.out _ _ (fun _ => ?_) (fun AA' => ?_)
 ·exact ⟨sI (((HSC8.out.far (p := ⟨w.heap.size + 3, 0, none⟩) (by have := HSL.out; simp; omega) _).far (p := ⟨w.heap.size + 3, 1, none⟩) (by have := HSL.out; simp; omega) _).far (p := ⟨w.heap.size + 3, 2, none⟩) (by have := HSL.out; simp; omega) _), (HS8.out.out (.slice A1 n' c1) (.slice A2 nl' c2) (.slice A3 nt' c3)).oc.2.2.2⟩
 replace AA := AA' rfl
 clear AA' hK K
 try dsimp only at AA
 have HS9 := iD (HS8.out.out (.slice A1 n' c1) (.slice A2 nl' c2) (.slice A3 nt' c3))
 have HP1 := iD (zm (x := w.heap.size + 3) (i := 2) (u := .slice A3 nt' c3) (zm (x := w.heap.size + 3) (i := 1) (u := .slice A2 nl' c2) (zm (x := w.heap.size + 3) (i := 0) (u := .slice A1 n' c1) HO1.out (by omega)) (by omega)) (by omega))
 have HP2 := iD (zm (x := w.heap.size + 3) (i := 2) (u := .slice A3 nt' c3) (zm (x := w.heap.size + 3) (i := 1) (u := .slice A2 nl' c2) (zm (x := w.heap.size + 3) (i := 0) (u := .slice A1 n' c1) HO2.out (by omega)) (by omega)) (by omega))
 have HP3 := iD (zm (x := w.heap.size + 3) (i := 2) (u := .slice A3 nt' c3) (zm (x := w.heap.size + 3) (i := 1) (u := .slice A2 nl' c2) (zm (x := w.heap.size + 3) (i := 0) (u := .slice A1 n' c1) HO3.out (by omega)) (by omega)) (by omega))
 clear d0 d1 d2 y0 y1 y2
 generalize World.setCell (World.setCell (World.setCell w8 _ _) _ _) _ _ = w9 at *
 have g9 := HS9.out.oc.2.2.2; have z9 := HS9.out.oz.2.2.2
 refine zG (k := 7) (mf 8 8) (by kernel_rfl) (by kernel_rfl) rfl (fun K hK => ?_)
 go_simp
 refine hK.out _ _ (fun h => by cases h) (fun _ => ?_)
 try clear AA
 clear hK K
 refine zH (by kernel_rfl) ?_ _
 refine oY.intro ?_
 have HS10 := iD (HS9.out.err E)
 have HR1 := iD (zm (x := w.heap.size + 4) (i := 0) (u := .int .i64 E) HP1.out (by omega))
 have HR2 := iD (zm (x := w.heap.size + 4) (i := 0) (u := .int .i64 E) HP2.out (by omega))
 have HR3 := iD (zm (x := w.heap.size + 4) (i := 0) (u := .int .i64 E) HP3.out (by omega))
 go_wp2_with fail
 generalize World.setCell w9 _ _ = wy at *
 clear g9 z9 HP1 HP2 HP3 HS9
 by_cases hEz : E = 0
 ·subst hEz
  refine leaves_cons (f := 43) (args := #[.pointer (some ⟨w.heap.size + 4, 0, none⟩), .pointer (some ⟨w.heap.size + 3, 0, none⟩)]) (by simp) (by simp [go_sem]) ?_
  refine (lp (w.heap.size + 4) (w.heap.size + 3) _ _ HS10.out.oc.2.2.2).mono ?_
  rintro e u' w'' ⟨rfl, rfl, rfl⟩
  obtain ⟨t0, t1, t2, t3⟩ := HS10.out.oc
  have hFe := HF.out rfl
  subst hFe
  exact ⟨.tuple #[.agg #[.slice A1 n' c1, .slice A2 nl' c2, .slice A3 nt' c3], .int .i64 0], by simp [results, Tryz.results15, go_sem, t0, t1, t2, t3], .inr ⟨by rw [HR.out, ← HEV.out], A1, A2, A3, n', c1, nl', c2, nt', c3, rfl, HR1.out.mono (by omega), World.ownsRow.mono HR2.out (by omega), HR3.out.mono (by omega)⟩, HS10.out.bl⟩
 ·have HRE : Hid (zR ns ds F k d p q = E) := by unfold Hid; rw [HR.out, HEV.out]
  have HR := HRE
  have HNZ := iD hEz
  clear hEz
  refine leaves_cons (f := 43) (args := #[.pointer (some ⟨w.heap.size + 4, 0, none⟩), .pointer (some ⟨w.heap.size + 3, 0, none⟩)]) (by simp) (by simp [go_sem]) ?_
  refine (uo (w.heap.size + 4) (w.heap.size + 3) _ _ _ _ _ _ (HNZ.out) HS10.out.oc.2.2.2 HS10.out.oc.1 HS10.out.oc.2.1 HS10.out.oc.2.2.1 HS10.out.oz.1 HS10.out.oz.2.1 HS10.out.oz.2.2.1).mono ?_
  rintro e u' w'' ⟨rfl, rfl, rfl⟩
  have HSZ := iD (HS10.out.out (.slice none 0 0) (.slice none 0 0) (.slice none 0 0))
  generalize World.setCell (World.setCell (World.setCell _ _ _) _ _) _ _ = wz at *
  obtain ⟨t0, t1, t2, t3⟩ := HSZ.out.oc
  refine ⟨.tuple #[.agg #[.slice none 0 0, .slice none 0 0, .slice none 0 0], .int .i64 E], by simp [results, Tryz.results15, go_sem, t0, t1, t2, t3], .inl ⟨by rw [HR.out]; exact HNZ.out, by rw [HR.out]⟩, HSZ.out.bl⟩
end
section
open Go.RowKit
theorem ox {d q : Int} : ∀ {ls : List Lk} {i : Nat} {p : Int}, (∀ x ∈ ls.take i, ¬ (x.dev = d ∧ x.key = q)) → ls[i]? = some ⟨d, p, q⟩ → xk d q ls = some i
 | [], _, _, _, h => by simp at h
 | x :: l, 0, _, _, h => by simp at h; rw [xk, if_pos (by rw [h]; exact ⟨rfl, rfl⟩)]
 | x :: l, i + 1, p, h1, h => by
  rw [xk, if_neg (h1 x (by simp)), ox (ls := l) (i := i) (p := p) (fun y hy => h1 y (by simp [hy])) (by simpa using h)]; rfl
theorem qt {d q : Int} : ∀ {ls : List Lk}, (∀ x ∈ ls, ¬ (x.dev = d ∧ x.key = q)) → xk d q ls = none
 | [], _ => rfl
 | x :: l, h => by rw [xk, if_neg (h x (by simp)), qt (fun y hy => h y (by simp [hy]))]; rfl
def RrR (w : World) (N : Array Value) (ls : List Lk) (d q : Int) (n gk : Nat) (iv : Value) (wr : World) : Prop := ∃ i : Nat, iv = .int .i64 i ∧ i ≤ n ∧ gk = n - i ∧ Hid (∀ x ∈ ls.take i, ¬ (x.dev = d ∧ x.key = q)) ∧ Hid (uI w N wr)
theorem oG (An Ad Al : Option Addr) (nn cn nd cd n c Bn Bd Bl : Nat) (ns : List Nd) (ds : List Dv) (ls : List Lk) (d q : Int) (w : World) (hln : ls.length = n) (hn : Sl w Bn 3 An nn cn (ns.flatMap Nd.cells)) (hd : Sl w Bd 5 Ad nd cd (ds.flatMap Dv.cells)) (hs : Sl w Bl 3 Al n c (ls.flatMap Lk.cells)) (hBn : Bn ≤ w.heap.size) (hBd : Bd ≤ w.heap.size) (hBl : Bl ≤ w.heap.size)
 (hsn : ∀ x ∈ ns, x.name.size ≤ 9223372036854775807) (hsd : ∀ x ∈ ds, x.name.size ≤ 9223372036854775807) :
 Calls Tryz.prog 41 #[.agg #[.slice An nn cn, .slice Ad nd cd], .slice Al n c, .int .i64 d, .int .i64 q] w (nP w ns ds ls d q) := by
 have HS := iD hs
 have HLN := iD hln
 have hle := hs.le
 have HST : Hid (uI w #[.slice An nn cn, .slice Ad nd cd] (w.alloc (.cells #[.slice An nn cn, .slice Ad nd cd] 30))) := ⟨Blk.new _ _ _, (Below.refl _ _).alloc lR _⟩
 have HCK := iD (xY An Ad Al nn cn nd cd n c Bn Bd Bl ns ds ls (w.alloc (.cells #[.slice An nn cn, .slice Ad nd cd] 30)) (hn.below HST.out.bl hBn) (hd.below HST.out.bl hBd) (hs.below HST.out.bl hBl) (by simp; omega) (by simp; omega) (by simp; omega) hsn hsd)
 clear hn hd hs hsn hsd hln
 go_enter Tryz.func41, Tryz.ntmps41
 go_wp2_with fail
 generalize World.alloc _ _ = W at *
 refine HCK.out.mono ?_
 rintro e w1 ⟨rfl, hb1⟩
 have HS1 := iD (HST.out.later hb1)
 clear hb1 HST HCK
 by_cases h0 : zL ns ds ls = 0; rotate_left
 ·have q0 : (zL ns ds ls != 0) = true := by simpa using h0
  have HNZ := iD h0
  clear h0
  go_wp2_with fail
  go_ret2
  exact ⟨.inl ⟨HNZ.out, rfl⟩, HS1.out.bl⟩
 have hn128 : n ≤ 128 := by have := (y8 h0).1; rw [HLN.out] at this; exact this
 have HZ := iD h0
 rw [h0]
 clear h0
 go_wp2_with fail
 go_loopg [11] n (RrR w #[.slice An nn cn, .slice Ad nd cd] ls d q n)
 case atStart => exact ⟨0, rfl, Nat.zero_le _, rfl, (fun x hx => by simp at hx), HS1⟩
 case round =>
  clear HS1
  obtain ⟨i, rfl, hi, rfl, hno, hst⟩ := hrel
  by_cases hlt : i < n
  ·have hSL := HS.out.below hst.out.bl hBl
   obtain ⟨b, off, d1, p1, q1, hAe, hb, hx, c0, c1, c2⟩ := hSL.lock hlt
   have HX := iD hx
   clear hx c1
   subst hAe
   by_cases hd : d1 = d; rotate_left
   ·have qd : (d1 == d) = false := by simpa using hd
    have HN : Hid (∀ x ∈ ls.take (i + 1), ¬ (x.dev = d ∧ x.key = q)) := fun x hx e => by
     rw [zt HX.out] at hx
     rcases List.mem_append.1 hx with h | h
     ·exact hno.out x h e
     ·rw [List.mem_singleton.1 h] at e; exact hd e.1
    clear hd
    go_wp2_with fail
    go_roundg (n - (i + 1))
    case rel => exact ⟨i + 1, by go_num, by omega, rfl, HN, hst⟩
    case measure => omega
   subst hd
   have qd : (d1 == d1) = true := by simp
   by_cases hq : q1 = q; rotate_left
   ·have qq : (q1 == q) = false := by simpa using hq
    have HN : Hid (∀ x ∈ ls.take (i + 1), ¬ (x.dev = d1 ∧ x.key = q)) := fun x hx e => by
     rw [zt HX.out] at hx
     rcases List.mem_append.1 hx with h | h
     ·exact hno.out x h e
     ·rw [List.mem_singleton.1 h] at e; exact hq e.2
    clear hq
    go_wp2_with fail
    go_roundg (n - (i + 1))
    case rel => exact ⟨i + 1, by go_num, by omega, rfl, HN, hst⟩
    case measure => omega
   subst hq
   have qq : (q1 == q1) = true := by simp
   have HI : Hid (xk d1 q1 ls = some i) := ox hno.out HX.out
   have hic : i ≤ c := by omega
   have HSK := iD (hSL.takeK (fun _ => rfl) (by decide) hi)
   have HSD := iD (hSL.dropK (k := i + 1) (fun _ => rfl) (by decide) (by omega))
   have hcut : ∀ W, (Instr.sliceAt 33 (.slice (some ⟨b, off, none⟩) n c) (some (.int .i64 ((i : Int) + 1))) none none).run Tryz.prog W = .ok (.slice (qB (some ⟨b, off, none⟩) c (i + 1) 3) (n - (i + 1)) (c - (i + 1))) W := fun W => by
    have := vO W (some ⟨b, off, none⟩) n c (i + 1) (by omega)
    rw [← this]; rfl
   obtain ⟨Ad2, hAd2⟩ : ∃ Ad2, qB (some (⟨b, off, none⟩ : Addr)) c (i + 1) 3 = Ad2 := ⟨_, rfl⟩
   rw [hAd2] at hcut HSD
   clear hAd2
   have hzr := hst.out.bl.size
   clear hSL
   go_upto_region 8 with (fail)
   clear c0 c2 qd qq
   go_upto_region 9 with (at_builtin; go_must (refine zW rfl _ (.tmp 43) rfl yd (by rfl) (World.ownsRow_nil _ wr.heap.size _ _) (by rfl) HSK.out (yh _) (by omega) (by omega) (by simp) ?_; intro A1 c1 w4 hown4 hgr4 hat4; simp only [Nat.zero_add, List.nil_append] at hown4 hgr4 ⊢; have HO4 := iD hown4; have HG4 := iD hgr4; clear hown4 hgr4 hat4))
   have HBL4 := iD (zp HG4.out)
   have HSD4 := iD (HSD.out.below HBL4.out (by omega))
   have hz4 := HBL4.out.size
   go_wp2_with (at_builtin; go_must (refine zW rfl (.tmp 45) (.tmp 49) rfl yd (by rfl) HO4.out (by rfl) HSD4.out (yh _) (by omega) (by omega) (by omega) ?_; intro A2 c2 w5 hown5 hgr5 hat5; have HO5 := iD hown5; have HG5 := iD hgr5; clear hown5 hgr5 hat5))
   go_ret2
   have hll := HLN.out
   have hlen : ls.length - 1 = i + (n - (i + 1)) := by omega
   refine ⟨.inr (.inr ⟨HZ.out, i, A2, c2, HI.out, by rw [hlen]; rfl, ?_⟩), ?_⟩
   ·unfold Hid yI; rw [hlen, List.eraseIdx_eq_take_drop_succ, List.flatMap_append]; exact World.ownsRow.mono HO5.out hzr
   ·have h1 := hst.out.bl.trans (HBL4.out.mono hzr)
    exact h1.trans ⟨HG5.out.os, HG5.out.tape, HG5.out.output, HG5.out.size, fun t ht => HG5.out.block t (by omega) (fun e => by have := (HO4.out.lt t e.symm).1; omega)⟩
  ·obtain rfl : i = n := by omega
   have hii : decide (i < i) = false := by simp
   have HN : Hid (xk d q ls = none) := by
    have := hno.out
    rw [List.take_of_length_le (by rw [HLN.out]; exact Nat.le_refl _)] at this
    exact qt this
   go_wp2_with fail
   go_ret2
   exact ⟨.inr (.inl ⟨HZ.out, HN.out, rfl⟩), hst.out.bl⟩
end
section
open Go.RowKit
section
variable {w : World} {base B size n c x m cn : Nat} {e : TypeId} {A : Option Addr} {xs : List Value} {u v t : Value}
theorem Sl.out3 (h : Sl w B size A n c xs) (hB : B ≤ x) : Sl (((w.setCell ⟨x, 0, none⟩ u).setCell ⟨x, 1, none⟩ v).setCell ⟨x, 2, none⟩ t) B size A n c xs := ((h.setCell (p := ⟨x, 0, none⟩) hB u).setCell (p := ⟨x, 1, none⟩) hB v).setCell (p := ⟨x, 2, none⟩) hB t
theorem wG (h : w.ownsRow base e size (.slice A n c) n xs) (hB : x < base) : (((w.setCell ⟨x, 0, none⟩ u).setCell ⟨x, 1, none⟩ v).setCell ⟨x, 2, none⟩ t).ownsRow base e size (.slice A n c) n xs := zm (zm (zm h hB) hB) hB
end
def nM (w : World) (n : Nat) (Al : Option Addr) (nl cl : Nat) (At : Option Addr) (nt ct : Nat) (s : List Int) (e : Ending) (w' : World) : Prop := ∃ (A' : Option Addr) (c' : Nat), e = .returned (.agg #[.slice A' n c', .slice Al nl cl, .slice At nt ct]) ∧ Hid (zQ w' w.heap.size A' n c' s) ∧ Hid (Below w.heap.size w w')
theorem rO (As Al At : Option Addr) (n c nl cl nt ct : Nat) (s : List Int) (p : Int) (d : Nat) (w : World) (hs : Sl w w.heap.size 1 As n c (zK s)) (hn : n ≤ 1000000) (hd : d < n) :
 Calls Tryz.prog 39 #[.agg #[.slice As n c, .slice Al nl cl, .slice At nt ct], .int .i64 (d : Int), .int .i64 p] w (nM w n Al nl cl At nt ct (s.set d p)) := by
 have HB := iD (Bc.new w #[.slice As n c, .slice Al nl cl, .slice At nt ct])
 have hle := hs.le
 have HS := iD (hs.below HB.out.bl lR)
 clear hs
 go_enter Tryz.func39, Tryz.ntmps39
 go_upto_region 1 with (fail)
 generalize World.alloc (World.alloc w _) _ = w1 at *
 obtain ⟨b0, b1, b2⟩ := HB.out.cells
 have z0 := HB.out.b0.frozen 0
 go_upto_region 2 with (at_builtin; go_must (refine zW rfl _ (.tmp 8) rfl yX (by rfl) (World.ownsRow_nil _ w1.heap.size _ _) (by rfl) HS.out (vi _) (by omega) (by omega) (by omega) ?_; intro A' c' w2 hown7 hgr7 hat7; simp only [Nat.zero_add, List.nil_append] at hown7 hgr7 ⊢; have HO := iD hown7; have HG := iD hgr7; have hB2 : Below w1.heap.size w1 w2 := (zp hgr7); have HB2 := iD (HB.out.later hB2); have HBB := iD hB2; have y0 := HB2.out.b0.cell 0; have zz := HB2.out.b0.frozen 0; clear hown7 hgr7 hat7 hB2))
 clear b0 b1 b2 z0 y0 zz
 have HO2 := iD (zm (x := w.heap.size) (i := 0) (u := .slice A' n c') HO.out HB.out.b0.lt)
 have HB3 : Hid (Bc w #[.slice A' n c', .slice Al nl cl, .slice At nt ct] (w2.setCell ⟨w.heap.size, 0, none⟩ (.slice A' n c'))) := ⟨HB2.out.b0.set 0 _, HB2.out.b1.far (by simp) _, HB2.out.bl.setCell (by simp) _⟩
 generalize World.setCell w2 _ _ = w3 at *
 have HO3 : Hid (zQ w3 w1.heap.size A' n c' s) := HO2.out
 clear HO2 HO HG HB2
 obtain ⟨tg, y, rfl, htg, htl, hy, hcy, hfy, hst⟩ := HO3.out.at hd
 obtain ⟨b0, b1, b2⟩ := HB3.out.cells
 have hsz : w.heap.size + 1 < w1.heap.size := HB.out.b1.lt
 have HO4 := iD (hst p)
 have HB4 : Hid (Bc w #[.slice (some ⟨tg, 0, none⟩) n c', .slice Al nl cl, .slice At nt ct] (w3.setCell ⟨tg, d, none⟩ (.int .i64 p))) := ⟨HB3.out.b0.far (by simp; omega) _, HB3.out.b1.far (by simp; omega) _, HB3.out.bl.setCell (by simp; omega) _⟩
 clear hst hy HO3
 go_upto_region 3 with (fail)
 clear b0 b1 b2 hcy hfy
 generalize World.setCell w3 _ _ = w4 at *
 obtain ⟨b0, b1, b2⟩ := HB4.out.cells
 have d0 : w4.cell? ⟨w.heap.size + 1, 0, none⟩ = some (.slice none 0 0) := HB4.out.b1.cell 0
 have d1 : w4.cell? ⟨w.heap.size + 1, 1, none⟩ = some (.slice none 0 0) := HB4.out.b1.cell 1
 have d2 : w4.cell? ⟨w.heap.size + 1, 2, none⟩ = some (.slice none 0 0) := HB4.out.b1.cell 2
 have y0 := HB4.out.b1.frozen 0; have y1 := HB4.out.b1.frozen 1; have y2 := HB4.out.b1.frozen 2
 go_wp2_with fail
 clear b0 b1 b2 d0 d1 d2 y0 y1 y2
 have HX : Hid (nM w n Al nl cl At nt ct (s.set d p) (.returned (.agg #[.slice (some ⟨tg, 0, none⟩) n c', .slice Al nl cl, .slice At nt ct])) (((w4.setCell ⟨w.heap.size + 1, 0, none⟩ (.slice (some ⟨tg, 0, none⟩) n c')).setCell ⟨w.heap.size + 1, 1, none⟩ (.slice Al nl cl)).setCell ⟨w.heap.size + 1, 2, none⟩ (.slice At nt ct))) :=
  ⟨some ⟨tg, 0, none⟩, c', rfl, (wG (x := w.heap.size + 1) HO4.out hsz).mono (by omega), ((HB4.out.bl.setCell (by simp) _).setCell (by simp) _).setCell (by simp) _⟩
 have HD : Hid (Blk (((w4.setCell ⟨w.heap.size + 1, 0, none⟩ (.slice (some ⟨tg, 0, none⟩) n c')).setCell ⟨w.heap.size + 1, 1, none⟩ (.slice Al nl cl)).setCell ⟨w.heap.size + 1, 2, none⟩ (.slice At nt ct)) (w.heap.size + 1) 35 #[.slice (some ⟨tg, 0, none⟩) n c', .slice Al nl cl, .slice At nt ct]) := ((HB4.out.b1.set 0 _).set 1 _).set 2 _
 generalize World.setCell (World.setCell (World.setCell w4 _ _) _ _) _ _ = x at *
 have d0 : x.cell? ⟨w.heap.size + 1, 0, none⟩ = some (.slice (some ⟨tg, 0, none⟩) n c') := HD.out.cell 0
 have d1 : x.cell? ⟨w.heap.size + 1, 1, none⟩ = some (.slice Al nl cl) := HD.out.cell 1
 have d2 : x.cell? ⟨w.heap.size + 1, 2, none⟩ = some (.slice At nt ct) := HD.out.cell 2
 exact bodyPost_ret (v := .agg #[.slice (some ⟨tg, 0, none⟩) n c', .slice Al nl cl, .slice At nt ct]) (by simp [results, Tryz.results39, go_sem, d0, d1, d2]) rfl HX.out
structure St4 (w : World) (cn cf ce co : Array Value) (wr : World) : Prop where
 b0 : Blk wr w.heap.size 30 cn
 b1 : Blk wr (w.heap.size + 1) 35 cf
 b2 : Blk wr (w.heap.size + 2) 44 ce
 b3 : Blk wr (w.heap.size + 3) 35 co
 bl : Below w.heap.size w wr
theorem St4.new (w : World) (cn cf ce co : Array Value) : St4 w cn cf ce co ((((w.alloc (.cells cn 30)).alloc (.cells cf 35)).alloc (.cells ce 44)).alloc (.cells co 35)) := by
 have g1 := Blk.new (w.alloc (.cells cn 30)) 35 cf
 have g2 := Blk.new ((w.alloc (.cells cn 30)).alloc (.cells cf 35)) 44 ce
 have g3 := Blk.new (((w.alloc (.cells cn 30)).alloc (.cells cf 35)).alloc (.cells ce 44)) 35 co
 simp only [World.size_alloc] at g1 g2 g3
 exact ⟨(((Blk.new w _ _).alloc _).alloc _).alloc _, (g1.alloc _).alloc _, g2.alloc _, g3, ((((Below.refl _ _).alloc lR _).alloc (by simp) _).alloc (by simp; omega) _).alloc (by simp; omega) _⟩
section
variable {w wr wr' : World} {cn cf ce co : Array Value}
theorem St4.later (h : St4 w cn cf ce co wr) (hb : Below wr.heap.size wr wr') : St4 w cn cf ce co wr' :=
 ⟨h.b0.below hb h.b0.lt, h.b1.below hb h.b1.lt, h.b2.below hb h.b2.lt, h.b3.below hb h.b3.lt, h.bl.trans (hb.mono h.bl.size)⟩
theorem St4.fld (h : St4 w cn cf ce co wr) (i : Nat) (u : Value) : St4 w cn (cf.setIfInBounds i u) ce co (wr.setCell ⟨w.heap.size + 1, i, none⟩ u) :=
 ⟨h.b0.far (by simp) _, h.b1.set i _, h.b2.far (by simp) _, h.b3.far (by simp) _, h.bl.setCell (by simp) _⟩
theorem St4.out {x y z : Value} (h : St4 w cn cf ce #[x, y, z] wr) (u v t : Value) : St4 w cn cf ce #[u, v, t] (((wr.setCell ⟨w.heap.size + 3, 0, none⟩ u).setCell ⟨w.heap.size + 3, 1, none⟩ v).setCell ⟨w.heap.size + 3, 2, none⟩ t) :=
 ⟨((h.b0.far (by simp) _).far (by simp) _).far (by simp) _, ((h.b1.far (by simp) _).far (by simp) _).far (by simp) _, ((h.b2.far (by simp) _).far (by simp) _).far (by simp) _, ((h.b3.set 0 _).set 1 _).set 2 _, ((h.bl.setCell (by simp) _).setCell (by simp) _).setCell (by simp) _⟩
theorem St4.oc {x y z : Value} (h : St4 w cn cf ce #[x, y, z] wr) : wr.cell? ⟨w.heap.size + 3, 0, none⟩ = some x ∧ wr.cell? ⟨w.heap.size + 3, 1, none⟩ = some y ∧ wr.cell? ⟨w.heap.size + 3, 2, none⟩ = some z := ⟨h.b3.cell 0, h.b3.cell 1, h.b3.cell 2⟩
theorem St4.oz (h : St4 w cn cf ce co wr) : wr.frozen? ⟨w.heap.size + 3, 0, none⟩ = false ∧ wr.frozen? ⟨w.heap.size + 3, 1, none⟩ = false ∧ wr.frozen? ⟨w.heap.size + 3, 2, none⟩ = false := ⟨h.b3.frozen 0, h.b3.frozen 1, h.b3.frozen 2⟩
theorem St4.fc {x y z : Value} (h : St4 w cn #[x, y, z] ce co wr) : wr.cell? ⟨w.heap.size + 1, 0, none⟩ = some x ∧ wr.cell? ⟨w.heap.size + 1, 1, none⟩ = some y ∧ wr.cell? ⟨w.heap.size + 1, 2, none⟩ = some z := ⟨h.b1.cell 0, h.b1.cell 1, h.b1.cell 2⟩
theorem St4.ec {x y z t : Value} (h : St4 w cn cf #[x, y, z, t] co wr) : wr.cell? ⟨w.heap.size + 2, 0, none⟩ = some x ∧ wr.cell? ⟨w.heap.size + 2, 1, none⟩ = some y ∧ wr.cell? ⟨w.heap.size + 2, 2, none⟩ = some z ∧ wr.cell? ⟨w.heap.size + 2, 3, none⟩ = some t := ⟨h.b2.cell 0, h.b2.cell 1, h.b2.cell 2, h.b2.cell 3⟩
theorem St4.nc {x y : Value} (h : St4 w #[x, y] cf ce co wr) : wr.cell? ⟨w.heap.size, 0, none⟩ = some x ∧ wr.cell? ⟨w.heap.size, 1, none⟩ = some y := ⟨h.b0.cell 0, h.b0.cell 1⟩
end
def Ap (g : Nat) (A : Option Addr) : Prop := ∀ b off, A = some ⟨b, off, none⟩ → b ≠ g
def sB (w : World) (ns : List Nd) (ds : List Dv) (As Al At : Option Addr) (F : Fd) (k d p q : Int) (e : Ending) (w' : World) : Prop :=
 ((zR ns ds F k d p q ≠ 0 ∧ e = .returned (.tuple #[.agg #[.slice none 0 0, .slice none 0 0, .slice none 0 0], .int .i64 (zR ns ds F k d p q)])) ∨
  zR ns ds F k d p q = 0 ∧ ∃ (A1 A2 A3 : Option Addr) (n1 c1 n2 c2 n3 c3 : Nat), e = .returned (.tuple #[.agg #[.slice A1 n1 c1, .slice A2 n2 c2, .slice A3 n3 c3], .int .i64 0]) ∧ Hid (Fd3 w' A1 n1 c1 A2 n2 c2 A3 n3 c3 (yu ds F k d p q)) ∧ Hid (∀ g, g < w.heap.size → Ap g As → Ap g Al → Ap g At → Ap g A1 ∧ Ap g A2 ∧ Ap g A3)) ∧ Hid (Below w.heap.size w w')
theorem ta {w : World} {base size n c g : Nat} {e : TypeId} {A : Option Addr} {xs : List Value} (h : w.ownsRow base e size (.slice A n c) n xs) (hg : g < base) : Ap g A := fun b off e => by have := (h.lt b (by rw [e]; rfl)).1; omega
theorem vc {st : List Int} {d i : Nat} {b : Bool} : xH (i + 1) st d b = xH i st d b ++ (if (if (i : Int) = d then b else decide ((i : Int) ∈ st)) = true then [(i : Int)] else []) := by
 unfold xH
 rw [qY, List.filter_append]
 congr 1
 rw [List.filter_cons, List.filter_nil]
theorem St4.gr {w wr wr' : World} {cn cf ce co : Array Value} {row : Option Nat} (h : St4 w cn cf ce co wr) (hg : wr.grownBy wr' row) (hr : ∀ g, row = some g → w.heap.size + 4 ≤ g) : St4 w cn cf ce co wr' :=
 have f : ∀ x, x < w.heap.size + 4 → some x ≠ row := fun x hx e => by have := hr x e.symm; omega
 ⟨h.b0.grown hg (f _ (by omega)), h.b1.grown hg (f _ (by omega)), h.b2.grown hg (f _ (by omega)), h.b3.grown hg (f _ (by omega)), h.bl.trans ⟨hg.os, hg.tape, hg.output, hg.size, fun i hi => hg.block i (by have := h.bl.size; omega) (f _ (by omega))⟩⟩
def RsR (w : World) (cn cf ce co : Array Value) (st : List Int) (d : Int) (b : Bool) (n gk : Nat) (lv iv : Value) (wr : World) : Prop := ∃ (i m cc : Nat) (A : Option Addr), lv = .slice A m cc ∧ iv = .int .i64 i ∧ i ≤ n ∧ gk = n - i ∧ Hid (zQ wr (w.heap.size + 4) A m cc (xH i st d b)) ∧ Hid (St4 w cn cf ce co wr)
theorem sJ (An Ad As Al At : Option Addr) (nn cn nd cd n c nl cl nt ct : Nat) (ns : List Nd) (ds : List Dv) (F : Fd) (k d p q : Int) (w : World) (h : FdM w An Ad As Al At nn cn nd cd n c nl cl nt ct ns ds F) :
 Calls Tryz.prog 13 #[.agg #[.slice An nn cn, .slice Ad nd cd], .agg #[.slice As n c, .slice Al nl cl, .slice At nt ct], .agg #[.int .i64 k, .int .i64 d, .int .i64 p, .int .i64 q]] w (sB w ns ds As Al At F k d p q) := by
 obtain ⟨-, hl2, hl3, hl4, hl5⟩ := h.ln
 have HL2 := iD hl2; have HL3 := iD hl3; have HL5 := iD hl5
 subst hl4
 have hdm := h.hd.le
 have HB := iD (St4.new w #[.slice An nn cn, .slice Ad nd cd] #[.slice As n c, .slice Al F.ls.length cl, .slice At nt ct] #[.int .i64 k, .int .i64 d, .int .i64 p, .int .i64 q] #[.slice none 0 0, .slice none 0 0, .slice none 0 0])
 have HH := iD h
 clear h hl2 hl3 hl5
 go_enter Tryz.func13, Tryz.ntmps13
 go_upto_region 1 with (fail)
 rw [show w.heap.size + 1 + 1 + 1 = w.heap.size + 3 from rfl, show w.heap.size + 1 + 1 = w.heap.size + 2 from rfl]
 generalize World.alloc (World.alloc (World.alloc (World.alloc w _) _) _) _ = w1 at *
 have HM1 := iD (HH.out.later HB.out.bl)
 obtain ⟨k0, k1⟩ := HB.out.nc
 obtain ⟨f0, f1, f2⟩ := HB.out.fc
 go_wp2_with fail
 clear k0 k1 f0 f1 f2
 refine (wF An Ad As Al At nn cn nd cd n c F.ls.length cl nt ct ns ds F w1 HM1.out).mono ?_
 rintro e w2 ⟨rfl, hb2⟩
 obtain ⟨E, hE⟩ : ∃ E, E = zk ns ds F := ⟨_, rfl⟩
 rw [← hE]
 have HE := iD hE
 have HS2 := iD (HB.out.later hb2)
 clear hE hb2 HB HM1
 by_cases h0 : E = 0; rotate_left
 ·have q0 : (E != 0) = true := by simpa using h0
  have HR : Hid (zR ns ds F k d p q = E) := by unfold Hid zR; rw [← HE.out, if_pos h0]
  have HNZ := iD h0
  clear h0
  obtain ⟨d0, d1, d2⟩ := HS2.out.oc
  obtain ⟨y0, y1, y2⟩ := HS2.out.oz
  have HSY := iD (HS2.out.out (.slice none 0 0) (.slice none 0 0) (.slice none 0 0))
  go_wp2_with fail
  clear d0 d1 d2 y0 y1 y2
  generalize World.setCell (World.setCell (World.setCell w2 _ _) _ _) _ _ = wz at *
  obtain ⟨t0, t1, t2⟩ := HSY.out.oc
  exact bodyPost_ret (v := .tuple #[.agg #[.slice none 0 0, .slice none 0 0, .slice none 0 0], .int .i64 E]) (by simp [results, Tryz.results13, go_sem, t0, t1, t2]) rfl ⟨.inl ⟨by rw [HR.out]; exact HNZ.out, by rw [HR.out]⟩, HSY.out.bl⟩
 subst h0
 obtain ⟨e0, e1, e2, e3⟩ := HS2.out.ec
 obtain ⟨k0, k1⟩ := HS2.out.nc
 by_cases hd0 : d < 0
 ·have q0 : decide (d < 0) = true := by simpa using hd0
  have HR : Hid (zR ns ds F k d p q = 8) := by unfold Hid zR; rw [if_neg (by rw [← HE.out]; simp), if_pos (.inl hd0)]
  clear hd0
  obtain ⟨d0, d1, d2⟩ := HS2.out.oc
  obtain ⟨y0, y1, y2⟩ := HS2.out.oz
  have HSY := iD (HS2.out.out (.slice none 0 0) (.slice none 0 0) (.slice none 0 0))
  go_wp2_with fail
  clear d0 d1 d2 y0 y1 y2
  generalize World.setCell (World.setCell (World.setCell w2 _ _) _ _) _ _ = wz at *
  obtain ⟨t0, t1, t2⟩ := HSY.out.oc
  exact bodyPost_ret (v := .tuple #[.agg #[.slice none 0 0, .slice none 0 0, .slice none 0 0], .int .i64 8]) (by simp [results, Tryz.results13, go_sem, t0, t1, t2]) rfl ⟨.inl ⟨by rw [HR.out]; decide, by rw [HR.out]⟩, HSY.out.bl⟩
 have q0 : decide (d < 0) = false := by simpa using hd0
 by_cases hd1 : (nd : Int) ≤ d
 ·have q1 : decide ((nd : Int) ≤ d) = true := by simpa using hd1
  have HR : Hid (zR ns ds F k d p q = 8) := by unfold Hid zR; rw [if_neg (by rw [← HE.out]; simp), if_pos (.inr (by rw [HL2.out]; exact hd1))]
  clear hd0 hd1
  obtain ⟨d0, d1, d2⟩ := HS2.out.oc
  obtain ⟨y0, y1, y2⟩ := HS2.out.oz
  have HSY := iD (HS2.out.out (.slice none 0 0) (.slice none 0 0) (.slice none 0 0))
  go_wp2_with fail
  clear d0 d1 d2 y0 y1 y2
  generalize World.setCell (World.setCell (World.setCell w2 _ _) _ _) _ _ = wz at *
  obtain ⟨t0, t1, t2⟩ := HSY.out.oc
  exact bodyPost_ret (v := .tuple #[.agg #[.slice none 0 0, .slice none 0 0, .slice none 0 0], .int .i64 8]) (by simp [results, Tryz.results13, go_sem, t0, t1, t2]) rfl ⟨.inl ⟨by rw [HR.out]; decide, by rw [HR.out]⟩, HSY.out.bl⟩
 have q1 : decide ((nd : Int) ≤ d) = false := by simpa using hd1
 obtain ⟨d, rfl⟩ := Int.eq_ofNat_of_zero_le (show 0 ≤ d by omega)
 have hnd : d < nd := by omega
 have hdn : d < ds.length := by rw [HL2.out]; omega
 have q1n : decide (nd ≤ d) = false := by simp; omega
 have HRU : Hid (zR ns ds F k d p q = if xx k p q = true then 14 else yB ns ds F k d p q) := by unfold Hid zR; rw [if_neg (by rw [← HE.out]; simp), if_neg (by omega)]
 obtain ⟨hzE, hzL, -, hzS⟩ := yo HE.out.symm
 obtain ⟨hs1, hs2, hs3, hs4⟩ := tx HE.out.symm
 have hdS : Hid (d < n) := by have := (yD hzE).2.1; have := HL3.out; unfold Hid; omega
 have HLE := iD hzL; have HSS := iD hzS
 obtain ⟨bd, off, x, hAd, hbd, hx, hc⟩ := HH.out.hd.at (k := d) (fun _ => rfl) (by decide) hnd
 subst hAd
 obtain ⟨nm, kd, xa, xb, xc⟩ := x
 have HKD : Hid (xU ds (d : Int) = kd) := xz hx
 have HKC : Hid (∀ W, Below w.heap.size w W → W.cell? ⟨bd, off + d * 5 + 1, none⟩ = some (.int .i64 kd)) := fun W hb => (hb.cell (p := ⟨bd, off + d * 5 + 1, none⟩) hbd).trans (hc 1 _ rfl)
 obtain ⟨lk, hlk⟩ : ∃ x, x = (yw F.ls (d : Int)).isSome := ⟨_, rfl⟩
 obtain ⟨sk, hsk⟩ : ∃ x, x = decide ((d : Int) ∈ F.st) := ⟨_, rfl⟩
 have HLK := iD hlk; have HSK := iD hsk
 clear hd0 hd1 hzE hzL hzS hc hx hlk hsk
 go_upto_region 6 with (fail)
 by_cases h1 : k = 1
 ·subst h1
  by_cases hq : q = 0; rotate_left
  ·have qq : (q != 0) = true := by simpa using hq
   have HR : Hid (zR ns ds F 1 d p q = 14) := by unfold Hid; rw [HRU.out, if_pos (by unfold xx; rw [if_neg (by decide), if_neg (by decide), if_neg (by decide)]; simpa using hq)]
   obtain ⟨d0, d1, d2⟩ := HS2.out.oc
   obtain ⟨y0, y1, y2⟩ := HS2.out.oz
   have HSY := iD (HS2.out.out (.slice none 0 0) (.slice none 0 0) (.slice none 0 0))
   go_wp2_with fail
   clear d0 d1 d2 y0 y1 y2
   generalize World.setCell (World.setCell (World.setCell w2 _ _) _ _) _ _ = wz at *
   obtain ⟨t0, t1, t2⟩ := HSY.out.oc
   exact bodyPost_ret (v := .tuple #[.agg #[.slice none 0 0, .slice none 0 0, .slice none 0 0], .int .i64 14]) (by simp [results, Tryz.results13, go_sem, t0, t1, t2]) rfl ⟨.inl ⟨by rw [HR.out]; decide, by rw [HR.out]⟩, HSY.out.bl⟩
  have qq : (q != 0) = false := by simpa using hq
  have HRV : Hid (zR ns ds F 1 d p q = yB ns ds F 1 d p q) := by unfold Hid; rw [HRU.out, if_neg (by unfold xx; rw [if_neg (by decide), if_neg (by decide), if_neg (by decide)]; simpa using hq)]
  clear HRU
  have c1 := HKC.out w2 HS2.out.bl
  obtain ⟨f0, f1, f2⟩ := HS2.out.fc
  go_wp2_with fail
  clear c1 f0 f1 f2 e0 e1 e2 e3 k0 k1
  refine (yY Al F.ls.length cl w.heap.size F.ls d w2 (HH.out.hl.below HS2.out.bl lR) HS2.out.bl.size).mono ?_
  rintro e w3 ⟨rfl, hb3⟩
  have HS3 := iD (HS2.out.later hb3)
  clear hb3 HS2
  unfold uD
  rw [← HLK.out]
  obtain ⟨f0, f1, f2⟩ := HS3.out.fc
  obtain ⟨e0, e1, e2, e3⟩ := HS3.out.ec
  obtain ⟨k0, k1⟩ := HS3.out.nc
  go_wp2_with fail
  refine (xB At nt ct F.st d w3 ((HH.out.ht.below HS3.out.bl lR).more HS3.out.bl.size)).mono ?_
  rintro e w4 ⟨rfl, rfl⟩
  rw [← HSK.out]
  by_cases h5 : kd = 5
  ·have qk : (kd == 5) = true := by simpa using h5
   have HR : Hid (zR ns ds F 1 d p q = 6) := by unfold Hid; rw [HRV.out]; unfold yB; rw [if_pos rfl]; rw [HKD.out, if_pos h5]
   obtain ⟨d0, d1, d2⟩ := HS3.out.oc
   obtain ⟨y0, y1, y2⟩ := HS3.out.oz
   have HSY := iD (HS3.out.out (.slice none 0 0) (.slice none 0 0) (.slice none 0 0))
   go_wp2_with fail
   clear d0 d1 d2 y0 y1 y2
   generalize World.setCell (World.setCell (World.setCell w3 _ _) _ _) _ _ = wz at *
   obtain ⟨t0, t1, t2⟩ := HSY.out.oc
   exact bodyPost_ret (v := .tuple #[.agg #[.slice none 0 0, .slice none 0 0, .slice none 0 0], .int .i64 6]) (by simp [results, Tryz.results13, go_sem, t0, t1, t2]) rfl ⟨.inl ⟨by rw [HR.out]; decide, by rw [HR.out]⟩, HSY.out.bl⟩
  have qk : (kd == 5) = false := by simpa using h5
  rcases hpp : yv p with _ | _
  ·have HR : Hid (zR ns ds F 1 d p q = 10) := by unfold Hid; rw [HRV.out]; unfold yB; rw [if_pos rfl]; rw [HKD.out, if_neg h5, if_pos hpp]
   go_wp2_with fail
   refine (wV p w3).mono ?_
   rintro e w5 ⟨rfl, rfl⟩
   rw [hpp]
   obtain ⟨d0, d1, d2⟩ := HS3.out.oc
   obtain ⟨y0, y1, y2⟩ := HS3.out.oz
   have HSY := iD (HS3.out.out (.slice none 0 0) (.slice none 0 0) (.slice none 0 0))
   go_wp2_with fail
   clear d0 d1 d2 y0 y1 y2
   generalize World.setCell (World.setCell (World.setCell w3 _ _) _ _) _ _ = wz at *
   obtain ⟨t0, t1, t2⟩ := HSY.out.oc
   exact bodyPost_ret (v := .tuple #[.agg #[.slice none 0 0, .slice none 0 0, .slice none 0 0], .int .i64 10]) (by simp [results, Tryz.results13, go_sem, t0, t1, t2]) rfl ⟨.inl ⟨by rw [HR.out]; decide, by rw [HR.out]⟩, HSY.out.bl⟩
  go_wp2_with fail
  refine (wV p w3).mono ?_
  rintro e w5 ⟨rfl, rfl⟩
  rw [hpp]
  rcases hlk2 : lk with _ | _; rotate_left
  ·have HR : Hid (zR ns ds F 1 d p q = 18) := by unfold Hid; rw [HRV.out]; unfold yB; rw [if_pos rfl]; rw [HKD.out, if_neg h5, if_neg (by simp [hpp]), ← HLK.out, if_pos hlk2]
   clear HLK hlk2
   obtain ⟨d0, d1, d2⟩ := HS3.out.oc
   obtain ⟨y0, y1, y2⟩ := HS3.out.oz
   have HSY := iD (HS3.out.out (.slice none 0 0) (.slice none 0 0) (.slice none 0 0))
   go_wp2_with fail
   clear d0 d1 d2 y0 y1 y2
   generalize World.setCell (World.setCell (World.setCell w3 _ _) _ _) _ _ = wz at *
   obtain ⟨t0, t1, t2⟩ := HSY.out.oc
   exact bodyPost_ret (v := .tuple #[.agg #[.slice none 0 0, .slice none 0 0, .slice none 0 0], .int .i64 18]) (by simp [results, Tryz.results13, go_sem, t0, t1, t2]) rfl ⟨.inl ⟨by rw [HR.out]; decide, by rw [HR.out]⟩, HSY.out.bl⟩
  rcases hsk2 : sk with _ | _
  ·have HTO : Hid (yu ds F 1 d p q = ⟨F.s.set d (p), F.ls, F.st⟩) := by unfold Hid; rw [to1, ← HLK.out, ← HSK.out, hlk2, hsk2]; rfl
   have HR : Hid (zR ns ds F 1 d p q = 0) := by unfold Hid; rw [HRV.out]; unfold yB; rw [if_pos rfl]; rw [HKD.out, if_neg h5, if_neg (by simp [hpp]), ← HLK.out, hlk2, if_neg (by simp)]
   clear HLK HSK hlk2 hsk2
   have HFS := iD ((HH.out.hs.below HS3.out.bl lR).more HS3.out.bl.size)
   go_wp2_with fail
   clear f0 f1 f2 e0 e1 e2 e3
   refine (rO As Al At n c F.ls.length cl nt ct F.s p d w3 HFS.out (by have := HL3.out; omega) hdS.out).mono ?_
   rintro e wt ⟨A', c', rfl, hO, hbt⟩
   have HST := iD (HS3.out.later hbt.out)
   have HOT := iD (hO.out.mono HS3.out.b3.lt)
   clear hO hbt
   obtain ⟨d0, d1, d2⟩ := HST.out.oc
   obtain ⟨y0, y1, y2⟩ := HST.out.oz
   have HSY := iD (HST.out.out (.slice A' n c') (.slice Al F.ls.length cl) (.slice At nt ct))
   have HAO := iD HOT.out
   have HFZ : Hid (Fd3 (((wt.setCell ⟨w.heap.size + 3, 0, none⟩ (.slice A' n c')).setCell ⟨w.heap.size + 3, 1, none⟩ (.slice Al F.ls.length cl)).setCell ⟨w.heap.size + 3, 2, none⟩ (.slice At nt ct)) A' n c' Al F.ls.length cl At nt ct ⟨F.s.set d p, F.ls, F.st⟩) := ⟨(Sl.of_own (wG (x := w.heap.size + 3) HOT.out (Nat.lt_succ_self _))), (Sl.out3 (x := w.heap.size + 3) (HH.out.hl.below HST.out.bl lR) (by omega)).more (by have := HST.out.bl.size; simp; omega), (Sl.out3 (x := w.heap.size + 3) (HH.out.ht.below HST.out.bl lR) (by omega)).more (by have := HST.out.bl.size; simp; omega)⟩
   go_wp2_with fail
   clear d0 d1 d2 y0 y1 y2
   generalize World.setCell (World.setCell (World.setCell wt _ _) _ _) _ _ = wz at *
   obtain ⟨t0, t1, t2⟩ := HSY.out.oc
   exact bodyPost_ret (v := .tuple #[.agg #[.slice A' n c', .slice Al F.ls.length cl, .slice At nt ct], .int .i64 0]) (by simp [results, Tryz.results13, go_sem, t0, t1, t2]) rfl ⟨.inr ⟨HR.out, _, _, _, _, _, _, _, _, _, rfl, by unfold Hid; rw [HTO.out]; exact HFZ.out, fun g hg _ h2 h3 => ⟨ta HAO.out (by omega), h2, h3⟩⟩, HSY.out.bl⟩
  ·have HTO : Hid (yu ds F 1 d p q = F) := by unfold Hid; rw [to1, ← HLK.out, ← HSK.out, hlk2, hsk2]; rfl
   have HR : Hid (zR ns ds F 1 d p q = 0) := by unfold Hid; rw [HRV.out]; unfold yB; rw [if_pos rfl]; rw [HKD.out, if_neg h5, if_neg (by simp [hpp]), ← HLK.out, hlk2, if_neg (by simp)]
   clear HLK HSK hlk2 hsk2
   obtain ⟨d0, d1, d2⟩ := HS3.out.oc
   obtain ⟨y0, y1, y2⟩ := HS3.out.oz
   have HSY := iD (HS3.out.out (.slice As n c) (.slice Al F.ls.length cl) (.slice At nt ct))
   have HFZ : Hid (Fd3 (((w3.setCell ⟨w.heap.size + 3, 0, none⟩ (.slice As n c)).setCell ⟨w.heap.size + 3, 1, none⟩ (.slice Al F.ls.length cl)).setCell ⟨w.heap.size + 3, 2, none⟩ (.slice At nt ct)) As n c Al F.ls.length cl At nt ct F) := ⟨(Sl.out3 (x := w.heap.size + 3) (HH.out.hs.below HS3.out.bl lR) (by omega)).more (by have := HS3.out.bl.size; simp; omega), (Sl.out3 (x := w.heap.size + 3) (HH.out.hl.below HS3.out.bl lR) (by omega)).more (by have := HS3.out.bl.size; simp; omega), (Sl.out3 (x := w.heap.size + 3) (HH.out.ht.below HS3.out.bl lR) (by omega)).more (by have := HS3.out.bl.size; simp; omega)⟩
   go_wp2_with fail
   clear d0 d1 d2 y0 y1 y2
   generalize World.setCell (World.setCell (World.setCell w3 _ _) _ _) _ _ = wz at *
   obtain ⟨t0, t1, t2⟩ := HSY.out.oc
   exact bodyPost_ret (v := .tuple #[.agg #[.slice As n c, .slice Al F.ls.length cl, .slice At nt ct], .int .i64 0]) (by simp [results, Tryz.results13, go_sem, t0, t1, t2]) rfl ⟨.inr ⟨HR.out, _, _, _, _, _, _, _, _, _, rfl, by unfold Hid; rw [HTO.out]; exact HFZ.out, fun _ _ h1 h2 h3 => ⟨h1, h2, h3⟩⟩, HSY.out.bl⟩
 have qk1 : (k == 1) = false := by simpa using h1
 by_cases h2 : k = 2
 ·subst h2
  by_cases hp : p = 0; rotate_left
  ·have qp : (p != 0) = true := by simpa using hp
   have HR : Hid (zR ns ds F 2 d p q = 14) := by unfold Hid; rw [HRU.out, if_pos (by unfold xx; rw [if_neg (by decide), if_neg (by decide), if_pos (by decide)]; simp [hp])]
   obtain ⟨d0, d1, d2⟩ := HS2.out.oc
   obtain ⟨y0, y1, y2⟩ := HS2.out.oz
   have HSY := iD (HS2.out.out (.slice none 0 0) (.slice none 0 0) (.slice none 0 0))
   go_wp2_with fail
   clear d0 d1 d2 y0 y1 y2
   generalize World.setCell (World.setCell (World.setCell w2 _ _) _ _) _ _ = wz at *
   obtain ⟨t0, t1, t2⟩ := HSY.out.oc
   exact bodyPost_ret (v := .tuple #[.agg #[.slice none 0 0, .slice none 0 0, .slice none 0 0], .int .i64 14]) (by simp [results, Tryz.results13, go_sem, t0, t1, t2]) rfl ⟨.inl ⟨by rw [HR.out]; decide, by rw [HR.out]⟩, HSY.out.bl⟩
  have qp : (p != 0) = false := by simpa using hp
  by_cases hq : q = 0; rotate_left
  ·have qq : (q != 0) = true := by simpa using hq
   have HR : Hid (zR ns ds F 2 d p q = 14) := by unfold Hid; rw [HRU.out, if_pos (by unfold xx; rw [if_neg (by decide), if_neg (by decide), if_pos (by decide)]; simp [hq])]
   obtain ⟨d0, d1, d2⟩ := HS2.out.oc
   obtain ⟨y0, y1, y2⟩ := HS2.out.oz
   have HSY := iD (HS2.out.out (.slice none 0 0) (.slice none 0 0) (.slice none 0 0))
   go_wp2_with fail
   clear d0 d1 d2 y0 y1 y2
   generalize World.setCell (World.setCell (World.setCell w2 _ _) _ _) _ _ = wz at *
   obtain ⟨t0, t1, t2⟩ := HSY.out.oc
   exact bodyPost_ret (v := .tuple #[.agg #[.slice none 0 0, .slice none 0 0, .slice none 0 0], .int .i64 14]) (by simp [results, Tryz.results13, go_sem, t0, t1, t2]) rfl ⟨.inl ⟨by rw [HR.out]; decide, by rw [HR.out]⟩, HSY.out.bl⟩
  have qq : (q != 0) = false := by simpa using hq
  have HRV : Hid (zR ns ds F 2 d p q = yB ns ds F 2 d p q) := by unfold Hid; rw [HRU.out, if_neg (by unfold xx; rw [if_neg (by decide), if_neg (by decide), if_pos (by decide)]; simp [hp, hq])]
  clear HRU
  have c1 := HKC.out w2 HS2.out.bl
  obtain ⟨f0, f1, f2⟩ := HS2.out.fc
  go_wp2_with fail
  clear c1 f0 f1 f2 e0 e1 e2 e3 k0 k1
  refine (yY Al F.ls.length cl w.heap.size F.ls d w2 (HH.out.hl.below HS2.out.bl lR) HS2.out.bl.size).mono ?_
  rintro e w3 ⟨rfl, hb3⟩
  have HS3 := iD (HS2.out.later hb3)
  clear hb3 HS2
  unfold uD
  rw [← HLK.out]
  obtain ⟨f0, f1, f2⟩ := HS3.out.fc
  obtain ⟨e0, e1, e2, e3⟩ := HS3.out.ec
  obtain ⟨k0, k1⟩ := HS3.out.nc
  go_wp2_with fail
  refine (xB At nt ct F.st d w3 ((HH.out.ht.below HS3.out.bl lR).more HS3.out.bl.size)).mono ?_
  rintro e w4 ⟨rfl, rfl⟩
  rw [← HSK.out]
  by_cases h5 : kd = 2; rotate_left
  ·have qk : (kd != 2) = true := by simpa using h5
   have HR : Hid (zR ns ds F 2 d p q = 6) := by unfold Hid; rw [HRV.out]; unfold yB; rw [if_neg (by decide), if_pos rfl]; rw [HKD.out, if_neg h5]
   obtain ⟨d0, d1, d2⟩ := HS3.out.oc
   obtain ⟨y0, y1, y2⟩ := HS3.out.oz
   have HSY := iD (HS3.out.out (.slice none 0 0) (.slice none 0 0) (.slice none 0 0))
   go_wp2_with fail
   clear d0 d1 d2 y0 y1 y2
   generalize World.setCell (World.setCell (World.setCell w3 _ _) _ _) _ _ = wz at *
   obtain ⟨t0, t1, t2⟩ := HSY.out.oc
   exact bodyPost_ret (v := .tuple #[.agg #[.slice none 0 0, .slice none 0 0, .slice none 0 0], .int .i64 6]) (by simp [results, Tryz.results13, go_sem, t0, t1, t2]) rfl ⟨.inl ⟨by rw [HR.out]; decide, by rw [HR.out]⟩, HSY.out.bl⟩
  have qk : (kd != 2) = false := by simpa using h5
  go_wp2_with fail
  refine (wV 1 w3).mono ?_
  rintro e w5 ⟨rfl, rfl⟩
  rw [show yv 1 = true from rfl]
  rcases hlk2 : lk with _ | _; rotate_left
  ·have HTO : Hid (yu ds F 2 d p q = F) := by unfold Hid; rw [to2, ← HLK.out, hlk2]; rfl
   have HR : Hid (zR ns ds F 2 d p q = 0) := by unfold Hid; rw [HRV.out]; unfold yB; rw [if_neg (by decide), if_pos rfl]; rw [HKD.out, if_pos h5]
   clear HLK HSK hlk2
   obtain ⟨d0, d1, d2⟩ := HS3.out.oc
   obtain ⟨y0, y1, y2⟩ := HS3.out.oz
   have HSY := iD (HS3.out.out (.slice As n c) (.slice Al F.ls.length cl) (.slice At nt ct))
   have HFZ : Hid (Fd3 (((w3.setCell ⟨w.heap.size + 3, 0, none⟩ (.slice As n c)).setCell ⟨w.heap.size + 3, 1, none⟩ (.slice Al F.ls.length cl)).setCell ⟨w.heap.size + 3, 2, none⟩ (.slice At nt ct)) As n c Al F.ls.length cl At nt ct F) := ⟨(Sl.out3 (x := w.heap.size + 3) (HH.out.hs.below HS3.out.bl lR) (by omega)).more (by have := HS3.out.bl.size; simp; omega), (Sl.out3 (x := w.heap.size + 3) (HH.out.hl.below HS3.out.bl lR) (by omega)).more (by have := HS3.out.bl.size; simp; omega), (Sl.out3 (x := w.heap.size + 3) (HH.out.ht.below HS3.out.bl lR) (by omega)).more (by have := HS3.out.bl.size; simp; omega)⟩
   go_wp2_with fail
   clear d0 d1 d2 y0 y1 y2
   generalize World.setCell (World.setCell (World.setCell w3 _ _) _ _) _ _ = wz at *
   obtain ⟨t0, t1, t2⟩ := HSY.out.oc
   exact bodyPost_ret (v := .tuple #[.agg #[.slice As n c, .slice Al F.ls.length cl, .slice At nt ct], .int .i64 0]) (by simp [results, Tryz.results13, go_sem, t0, t1, t2]) rfl ⟨.inr ⟨HR.out, _, _, _, _, _, _, _, _, _, rfl, by unfold Hid; rw [HTO.out]; exact HFZ.out, fun _ _ h1 h2 h3 => ⟨h1, h2, h3⟩⟩, HSY.out.bl⟩
  rcases hsk2 : sk with _ | _
  ·have HTO : Hid (yu ds F 2 d p q = ⟨F.s.set d (1), F.ls, F.st⟩) := by unfold Hid; rw [to2, ← HLK.out, ← HSK.out, hlk2, hsk2]; rfl
   have HR : Hid (zR ns ds F 2 d p q = 0) := by unfold Hid; rw [HRV.out]; unfold yB; rw [if_neg (by decide), if_pos rfl]; rw [HKD.out, if_pos h5]
   clear HLK HSK hlk2 hsk2
   have HFS := iD ((HH.out.hs.below HS3.out.bl lR).more HS3.out.bl.size)
   go_wp2_with fail
   clear f0 f1 f2 e0 e1 e2 e3
   refine (rO As Al At n c F.ls.length cl nt ct F.s 1 d w3 HFS.out (by have := HL3.out; omega) hdS.out).mono ?_
   rintro e wt ⟨A', c', rfl, hO, hbt⟩
   have HST := iD (HS3.out.later hbt.out)
   have HOT := iD (hO.out.mono HS3.out.b3.lt)
   clear hO hbt
   obtain ⟨d0, d1, d2⟩ := HST.out.oc
   obtain ⟨y0, y1, y2⟩ := HST.out.oz
   have HSY := iD (HST.out.out (.slice A' n c') (.slice Al F.ls.length cl) (.slice At nt ct))
   have HAO := iD HOT.out
   have HFZ : Hid (Fd3 (((wt.setCell ⟨w.heap.size + 3, 0, none⟩ (.slice A' n c')).setCell ⟨w.heap.size + 3, 1, none⟩ (.slice Al F.ls.length cl)).setCell ⟨w.heap.size + 3, 2, none⟩ (.slice At nt ct)) A' n c' Al F.ls.length cl At nt ct ⟨F.s.set d 1, F.ls, F.st⟩) := ⟨(Sl.of_own (wG (x := w.heap.size + 3) HOT.out (Nat.lt_succ_self _))), (Sl.out3 (x := w.heap.size + 3) (HH.out.hl.below HST.out.bl lR) (by omega)).more (by have := HST.out.bl.size; simp; omega), (Sl.out3 (x := w.heap.size + 3) (HH.out.ht.below HST.out.bl lR) (by omega)).more (by have := HST.out.bl.size; simp; omega)⟩
   go_wp2_with fail
   clear d0 d1 d2 y0 y1 y2
   generalize World.setCell (World.setCell (World.setCell wt _ _) _ _) _ _ = wz at *
   obtain ⟨t0, t1, t2⟩ := HSY.out.oc
   exact bodyPost_ret (v := .tuple #[.agg #[.slice A' n c', .slice Al F.ls.length cl, .slice At nt ct], .int .i64 0]) (by simp [results, Tryz.results13, go_sem, t0, t1, t2]) rfl ⟨.inr ⟨HR.out, _, _, _, _, _, _, _, _, _, rfl, by unfold Hid; rw [HTO.out]; exact HFZ.out, fun g hg _ h2 h3 => ⟨ta HAO.out (by omega), h2, h3⟩⟩, HSY.out.bl⟩
  ·have HTO : Hid (yu ds F 2 d p q = F) := by unfold Hid; rw [to2, ← HLK.out, ← HSK.out, hlk2, hsk2]; rfl
   have HR : Hid (zR ns ds F 2 d p q = 0) := by unfold Hid; rw [HRV.out]; unfold yB; rw [if_neg (by decide), if_pos rfl]; rw [HKD.out, if_pos h5]
   clear HLK HSK hlk2 hsk2
   obtain ⟨d0, d1, d2⟩ := HS3.out.oc
   obtain ⟨y0, y1, y2⟩ := HS3.out.oz
   have HSY := iD (HS3.out.out (.slice As n c) (.slice Al F.ls.length cl) (.slice At nt ct))
   have HFZ : Hid (Fd3 (((w3.setCell ⟨w.heap.size + 3, 0, none⟩ (.slice As n c)).setCell ⟨w.heap.size + 3, 1, none⟩ (.slice Al F.ls.length cl)).setCell ⟨w.heap.size + 3, 2, none⟩ (.slice At nt ct)) As n c Al F.ls.length cl At nt ct F) := ⟨(Sl.out3 (x := w.heap.size + 3) (HH.out.hs.below HS3.out.bl lR) (by omega)).more (by have := HS3.out.bl.size; simp; omega), (Sl.out3 (x := w.heap.size + 3) (HH.out.hl.below HS3.out.bl lR) (by omega)).more (by have := HS3.out.bl.size; simp; omega), (Sl.out3 (x := w.heap.size + 3) (HH.out.ht.below HS3.out.bl lR) (by omega)).more (by have := HS3.out.bl.size; simp; omega)⟩
   go_wp2_with fail
   clear d0 d1 d2 y0 y1 y2
   generalize World.setCell (World.setCell (World.setCell w3 _ _) _ _) _ _ = wz at *
   obtain ⟨t0, t1, t2⟩ := HSY.out.oc
   exact bodyPost_ret (v := .tuple #[.agg #[.slice As n c, .slice Al F.ls.length cl, .slice At nt ct], .int .i64 0]) (by simp [results, Tryz.results13, go_sem, t0, t1, t2]) rfl ⟨.inr ⟨HR.out, _, _, _, _, _, _, _, _, _, rfl, by unfold Hid; rw [HTO.out]; exact HFZ.out, fun _ _ h1 h2 h3 => ⟨h1, h2, h3⟩⟩, HSY.out.bl⟩
 have qk2 : (k == 2) = false := by simpa using h2
 by_cases h3 : k = 3
 ·subst h3
  by_cases hq : q = 0; rotate_left
  ·have qq : (q != 0) = true := by simpa using hq
   have HR : Hid (zR ns ds F 3 d p q = 14) := by unfold Hid; rw [HRU.out, if_pos (by unfold xx; rw [if_neg (by decide), if_neg (by decide), if_neg (by decide)]; simpa using hq)]
   obtain ⟨d0, d1, d2⟩ := HS2.out.oc
   obtain ⟨y0, y1, y2⟩ := HS2.out.oz
   have HSY := iD (HS2.out.out (.slice none 0 0) (.slice none 0 0) (.slice none 0 0))
   go_wp2_with fail
   clear d0 d1 d2 y0 y1 y2
   generalize World.setCell (World.setCell (World.setCell w2 _ _) _ _) _ _ = wz at *
   obtain ⟨t0, t1, t2⟩ := HSY.out.oc
   exact bodyPost_ret (v := .tuple #[.agg #[.slice none 0 0, .slice none 0 0, .slice none 0 0], .int .i64 14]) (by simp [results, Tryz.results13, go_sem, t0, t1, t2]) rfl ⟨.inl ⟨by rw [HR.out]; decide, by rw [HR.out]⟩, HSY.out.bl⟩
  have qq : (q != 0) = false := by simpa using hq
  have HRV : Hid (zR ns ds F 3 d p q = yB ns ds F 3 d p q) := by unfold Hid; rw [HRU.out, if_neg (by unfold xx; rw [if_neg (by decide), if_neg (by decide), if_neg (by decide)]; simpa using hq)]
  clear HRU
  have c1 := HKC.out w2 HS2.out.bl
  obtain ⟨f0, f1, f2⟩ := HS2.out.fc
  go_wp2_with fail
  clear c1 f0 f1 f2 e0 e1 e2 e3 k0 k1
  refine (yY Al F.ls.length cl w.heap.size F.ls d w2 (HH.out.hl.below HS2.out.bl lR) HS2.out.bl.size).mono ?_
  rintro e w3 ⟨rfl, hb3⟩
  have HS3 := iD (HS2.out.later hb3)
  clear hb3 HS2
  unfold uD
  rw [← HLK.out]
  obtain ⟨f0, f1, f2⟩ := HS3.out.fc
  obtain ⟨e0, e1, e2, e3⟩ := HS3.out.ec
  obtain ⟨k0, k1⟩ := HS3.out.nc
  go_wp2_with fail
  refine (xB At nt ct F.st d w3 ((HH.out.ht.below HS3.out.bl lR).more HS3.out.bl.size)).mono ?_
  rintro e w4 ⟨rfl, rfl⟩
  rw [← HSK.out]
  by_cases h5 : kd = 6; rotate_left
  ·have qk : (kd != 6) = true := by simpa using h5
   have HR : Hid (zR ns ds F 3 d p q = 6) := by unfold Hid; rw [HRV.out]; unfold yB; rw [if_neg (by decide), if_neg (by decide), if_pos rfl]; rw [HKD.out, if_neg h5]
   obtain ⟨d0, d1, d2⟩ := HS3.out.oc
   obtain ⟨y0, y1, y2⟩ := HS3.out.oz
   have HSY := iD (HS3.out.out (.slice none 0 0) (.slice none 0 0) (.slice none 0 0))
   go_wp2_with fail
   clear d0 d1 d2 y0 y1 y2
   generalize World.setCell (World.setCell (World.setCell w3 _ _) _ _) _ _ = wz at *
   obtain ⟨t0, t1, t2⟩ := HSY.out.oc
   exact bodyPost_ret (v := .tuple #[.agg #[.slice none 0 0, .slice none 0 0, .slice none 0 0], .int .i64 6]) (by simp [results, Tryz.results13, go_sem, t0, t1, t2]) rfl ⟨.inl ⟨by rw [HR.out]; decide, by rw [HR.out]⟩, HSY.out.bl⟩
  have qk : (kd != 6) = false := by simpa using h5
  rcases hpp : yv p with _ | _
  ·have HR : Hid (zR ns ds F 3 d p q = 10) := by unfold Hid; rw [HRV.out]; unfold yB; rw [if_neg (by decide), if_neg (by decide), if_pos rfl]; rw [HKD.out, if_pos h5, if_neg (by simp [hpp])]
   go_wp2_with fail
   refine (wV p w3).mono ?_
   rintro e w5 ⟨rfl, rfl⟩
   rw [hpp]
   obtain ⟨d0, d1, d2⟩ := HS3.out.oc
   obtain ⟨y0, y1, y2⟩ := HS3.out.oz
   have HSY := iD (HS3.out.out (.slice none 0 0) (.slice none 0 0) (.slice none 0 0))
   go_wp2_with fail
   clear d0 d1 d2 y0 y1 y2
   generalize World.setCell (World.setCell (World.setCell w3 _ _) _ _) _ _ = wz at *
   obtain ⟨t0, t1, t2⟩ := HSY.out.oc
   exact bodyPost_ret (v := .tuple #[.agg #[.slice none 0 0, .slice none 0 0, .slice none 0 0], .int .i64 10]) (by simp [results, Tryz.results13, go_sem, t0, t1, t2]) rfl ⟨.inl ⟨by rw [HR.out]; decide, by rw [HR.out]⟩, HSY.out.bl⟩
  go_wp2_with fail
  refine (wV p w3).mono ?_
  rintro e w5 ⟨rfl, rfl⟩
  rw [hpp]
  rcases hlk2 : lk with _ | _; rotate_left
  ·have HTO : Hid (yu ds F 3 d p q = F) := by unfold Hid; rw [to3, ← HLK.out, hlk2]; rfl
   have HR : Hid (zR ns ds F 3 d p q = 0) := by unfold Hid; rw [HRV.out]; unfold yB; rw [if_neg (by decide), if_neg (by decide), if_pos rfl]; rw [HKD.out, if_pos h5, if_pos hpp]
   clear HLK HSK hlk2
   obtain ⟨d0, d1, d2⟩ := HS3.out.oc
   obtain ⟨y0, y1, y2⟩ := HS3.out.oz
   have HSY := iD (HS3.out.out (.slice As n c) (.slice Al F.ls.length cl) (.slice At nt ct))
   have HFZ : Hid (Fd3 (((w3.setCell ⟨w.heap.size + 3, 0, none⟩ (.slice As n c)).setCell ⟨w.heap.size + 3, 1, none⟩ (.slice Al F.ls.length cl)).setCell ⟨w.heap.size + 3, 2, none⟩ (.slice At nt ct)) As n c Al F.ls.length cl At nt ct F) := ⟨(Sl.out3 (x := w.heap.size + 3) (HH.out.hs.below HS3.out.bl lR) (by omega)).more (by have := HS3.out.bl.size; simp; omega), (Sl.out3 (x := w.heap.size + 3) (HH.out.hl.below HS3.out.bl lR) (by omega)).more (by have := HS3.out.bl.size; simp; omega), (Sl.out3 (x := w.heap.size + 3) (HH.out.ht.below HS3.out.bl lR) (by omega)).more (by have := HS3.out.bl.size; simp; omega)⟩
   go_wp2_with fail
   clear d0 d1 d2 y0 y1 y2
   generalize World.setCell (World.setCell (World.setCell w3 _ _) _ _) _ _ = wz at *
   obtain ⟨t0, t1, t2⟩ := HSY.out.oc
   exact bodyPost_ret (v := .tuple #[.agg #[.slice As n c, .slice Al F.ls.length cl, .slice At nt ct], .int .i64 0]) (by simp [results, Tryz.results13, go_sem, t0, t1, t2]) rfl ⟨.inr ⟨HR.out, _, _, _, _, _, _, _, _, _, rfl, by unfold Hid; rw [HTO.out]; exact HFZ.out, fun _ _ h1 h2 h3 => ⟨h1, h2, h3⟩⟩, HSY.out.bl⟩
  rcases hsk2 : sk with _ | _
  ·have HTO : Hid (yu ds F 3 d p q = ⟨F.s.set d (p), F.ls, F.st⟩) := by unfold Hid; rw [to3, ← HLK.out, ← HSK.out, hlk2, hsk2]; rfl
   have HR : Hid (zR ns ds F 3 d p q = 0) := by unfold Hid; rw [HRV.out]; unfold yB; rw [if_neg (by decide), if_neg (by decide), if_pos rfl]; rw [HKD.out, if_pos h5, if_pos hpp]
   clear HLK HSK hlk2 hsk2
   have HFS := iD ((HH.out.hs.below HS3.out.bl lR).more HS3.out.bl.size)
   go_wp2_with fail
   clear f0 f1 f2 e0 e1 e2 e3
   refine (rO As Al At n c F.ls.length cl nt ct F.s p d w3 HFS.out (by have := HL3.out; omega) hdS.out).mono ?_
   rintro e wt ⟨A', c', rfl, hO, hbt⟩
   have HST := iD (HS3.out.later hbt.out)
   have HOT := iD (hO.out.mono HS3.out.b3.lt)
   clear hO hbt
   obtain ⟨d0, d1, d2⟩ := HST.out.oc
   obtain ⟨y0, y1, y2⟩ := HST.out.oz
   have HSY := iD (HST.out.out (.slice A' n c') (.slice Al F.ls.length cl) (.slice At nt ct))
   have HAO := iD HOT.out
   have HFZ : Hid (Fd3 (((wt.setCell ⟨w.heap.size + 3, 0, none⟩ (.slice A' n c')).setCell ⟨w.heap.size + 3, 1, none⟩ (.slice Al F.ls.length cl)).setCell ⟨w.heap.size + 3, 2, none⟩ (.slice At nt ct)) A' n c' Al F.ls.length cl At nt ct ⟨F.s.set d p, F.ls, F.st⟩) := ⟨(Sl.of_own (wG (x := w.heap.size + 3) HOT.out (Nat.lt_succ_self _))), (Sl.out3 (x := w.heap.size + 3) (HH.out.hl.below HST.out.bl lR) (by omega)).more (by have := HST.out.bl.size; simp; omega), (Sl.out3 (x := w.heap.size + 3) (HH.out.ht.below HST.out.bl lR) (by omega)).more (by have := HST.out.bl.size; simp; omega)⟩
   go_wp2_with fail
   clear d0 d1 d2 y0 y1 y2
   generalize World.setCell (World.setCell (World.setCell wt _ _) _ _) _ _ = wz at *
   obtain ⟨t0, t1, t2⟩ := HSY.out.oc
   exact bodyPost_ret (v := .tuple #[.agg #[.slice A' n c', .slice Al F.ls.length cl, .slice At nt ct], .int .i64 0]) (by simp [results, Tryz.results13, go_sem, t0, t1, t2]) rfl ⟨.inr ⟨HR.out, _, _, _, _, _, _, _, _, _, rfl, by unfold Hid; rw [HTO.out]; exact HFZ.out, fun g hg _ h2 h3 => ⟨ta HAO.out (by omega), h2, h3⟩⟩, HSY.out.bl⟩
  ·have HTO : Hid (yu ds F 3 d p q = F) := by unfold Hid; rw [to3, ← HLK.out, ← HSK.out, hlk2, hsk2]; rfl
   have HR : Hid (zR ns ds F 3 d p q = 0) := by unfold Hid; rw [HRV.out]; unfold yB; rw [if_neg (by decide), if_neg (by decide), if_pos rfl]; rw [HKD.out, if_pos h5, if_pos hpp]
   clear HLK HSK hlk2 hsk2
   obtain ⟨d0, d1, d2⟩ := HS3.out.oc
   obtain ⟨y0, y1, y2⟩ := HS3.out.oz
   have HSY := iD (HS3.out.out (.slice As n c) (.slice Al F.ls.length cl) (.slice At nt ct))
   have HFZ : Hid (Fd3 (((w3.setCell ⟨w.heap.size + 3, 0, none⟩ (.slice As n c)).setCell ⟨w.heap.size + 3, 1, none⟩ (.slice Al F.ls.length cl)).setCell ⟨w.heap.size + 3, 2, none⟩ (.slice At nt ct)) As n c Al F.ls.length cl At nt ct F) := ⟨(Sl.out3 (x := w.heap.size + 3) (HH.out.hs.below HS3.out.bl lR) (by omega)).more (by have := HS3.out.bl.size; simp; omega), (Sl.out3 (x := w.heap.size + 3) (HH.out.hl.below HS3.out.bl lR) (by omega)).more (by have := HS3.out.bl.size; simp; omega), (Sl.out3 (x := w.heap.size + 3) (HH.out.ht.below HS3.out.bl lR) (by omega)).more (by have := HS3.out.bl.size; simp; omega)⟩
   go_wp2_with fail
   clear d0 d1 d2 y0 y1 y2
   generalize World.setCell (World.setCell (World.setCell w3 _ _) _ _) _ _ = wz at *
   obtain ⟨t0, t1, t2⟩ := HSY.out.oc
   exact bodyPost_ret (v := .tuple #[.agg #[.slice As n c, .slice Al F.ls.length cl, .slice At nt ct], .int .i64 0]) (by simp [results, Tryz.results13, go_sem, t0, t1, t2]) rfl ⟨.inr ⟨HR.out, _, _, _, _, _, _, _, _, _, rfl, by unfold Hid; rw [HTO.out]; exact HFZ.out, fun _ _ h1 h2 h3 => ⟨h1, h2, h3⟩⟩, HSY.out.bl⟩
 have qk3 : (k == 3) = false := by simpa using h3
 by_cases h4 : k = 4
 ·subst h4
  by_cases hp : p = 0; rotate_left
  ·have qp : (p != 0) = true := by simpa using hp
   have HR : Hid (zR ns ds F 4 d p q = 14) := by unfold Hid; rw [HRU.out, if_pos (by unfold xx; rw [if_neg (by decide), if_neg (by decide), if_pos (by decide)]; simp [hp])]
   obtain ⟨d0, d1, d2⟩ := HS2.out.oc
   obtain ⟨y0, y1, y2⟩ := HS2.out.oz
   have HSY := iD (HS2.out.out (.slice none 0 0) (.slice none 0 0) (.slice none 0 0))
   go_wp2_with fail
   clear d0 d1 d2 y0 y1 y2
   generalize World.setCell (World.setCell (World.setCell w2 _ _) _ _) _ _ = wz at *
   obtain ⟨t0, t1, t2⟩ := HSY.out.oc
   exact bodyPost_ret (v := .tuple #[.agg #[.slice none 0 0, .slice none 0 0, .slice none 0 0], .int .i64 14]) (by simp [results, Tryz.results13, go_sem, t0, t1, t2]) rfl ⟨.inl ⟨by rw [HR.out]; decide, by rw [HR.out]⟩, HSY.out.bl⟩
  have qp : (p != 0) = false := by simpa using hp
  by_cases hq : q = 0; rotate_left
  ·have qq : (q != 0) = true := by simpa using hq
   have HR : Hid (zR ns ds F 4 d p q = 14) := by unfold Hid; rw [HRU.out, if_pos (by unfold xx; rw [if_neg (by decide), if_neg (by decide), if_pos (by decide)]; simp [hq])]
   obtain ⟨d0, d1, d2⟩ := HS2.out.oc
   obtain ⟨y0, y1, y2⟩ := HS2.out.oz
   have HSY := iD (HS2.out.out (.slice none 0 0) (.slice none 0 0) (.slice none 0 0))
   go_wp2_with fail
   clear d0 d1 d2 y0 y1 y2
   generalize World.setCell (World.setCell (World.setCell w2 _ _) _ _) _ _ = wz at *
   obtain ⟨t0, t1, t2⟩ := HSY.out.oc
   exact bodyPost_ret (v := .tuple #[.agg #[.slice none 0 0, .slice none 0 0, .slice none 0 0], .int .i64 14]) (by simp [results, Tryz.results13, go_sem, t0, t1, t2]) rfl ⟨.inl ⟨by rw [HR.out]; decide, by rw [HR.out]⟩, HSY.out.bl⟩
  have qq : (q != 0) = false := by simpa using hq
  have HRV : Hid (zR ns ds F 4 d p q = yB ns ds F 4 d p q) := by unfold Hid; rw [HRU.out, if_neg (by unfold xx; rw [if_neg (by decide), if_neg (by decide), if_pos (by decide)]; simp [hp, hq])]
  clear HRU
  have c1 := HKC.out w2 HS2.out.bl
  obtain ⟨f0, f1, f2⟩ := HS2.out.fc
  go_wp2_with fail
  clear c1 f0 f1 f2 e0 e1 e2 e3 k0 k1
  refine (yY Al F.ls.length cl w.heap.size F.ls d w2 (HH.out.hl.below HS2.out.bl lR) HS2.out.bl.size).mono ?_
  rintro e w3 ⟨rfl, hb3⟩
  have HS3 := iD (HS2.out.later hb3)
  clear hb3 HS2
  unfold uD
  rw [← HLK.out]
  obtain ⟨f0, f1, f2⟩ := HS3.out.fc
  obtain ⟨e0, e1, e2, e3⟩ := HS3.out.ec
  obtain ⟨k0, k1⟩ := HS3.out.nc
  go_wp2_with fail
  refine (xB At nt ct F.st d w3 ((HH.out.ht.below HS3.out.bl lR).more HS3.out.bl.size)).mono ?_
  rintro e w4 ⟨rfl, rfl⟩
  rw [← HSK.out]
  go_wp2_with fail
  clear e0 e1 e2 e3 k0 k1 f0 f1 f2
  have hH3 : Hid (w.heap.size + 4 ≤ w3.heap.size) := HS3.out.b3.lt
  refine xw [(15, 0), (0, 2), (0, 3), (140, 0), (31, 1), (62, 0)] 16 17 (nd) (RsR w #[.slice An nn cn, .slice (some ⟨bd, off, none⟩) nd cd] #[.slice As n c, .slice Al F.ls.length cl, .slice At nt ct] #[.int .i64 4, .int .i64 (d : Int), .int .i64 p, .int .i64 q] #[.slice none 0 0, .slice none 0 0, .slice none 0 0] F.st (d : Int) true nd) (by (try dsimp only [gt]); exact ⟨0, 0, 0, none, rfl, rfl, Nat.zero_le _, rfl, World.ownsRow_nil _ _ _ _, HS3⟩) (by kernel_rfl) ?_
  intro u1 p16 p17 gk wr a hrel ha J1 K1 hJ1 hK1
  dsimp only [zi, v2, Nat.reduceAdd] at ha
  subst ha
  clear HS3
  obtain ⟨i, m, cc, A, rfl, rfl, hi, rfl, hO, hS⟩ := hrel
  obtain ⟨k0, k1⟩ := hS.out.nc
  obtain ⟨f0, f1, f2⟩ := hS.out.fc
  obtain ⟨e0, e1, e2, e3⟩ := hS.out.ec
  have hml : m ≤ i := by have := pP (rQ i F.st d true); rw [hO.out.len] at this; exact this
  have hsz := hS.out.b3.lt
  have hnd64 : nd ≤ 64 := by have := HL2.out; omega
  by_cases hlt : i < nd
  ·by_cases hid : i = d
   ·have qx : ((i : Int) != (d : Int)) = false := by simp; omega
    have qy : ((i : Int) == (d : Int)) = true := by simp; omega
    have qxn : (i != d) = false := by simpa using hid
    have qyn : (i == d) = true := by simpa using hid
    have HID := iD hid
    clear hid
    go_wp2_with (at_builtin; go_must (refine zW rfl (.tmp 187) (.tmp 189) rfl yX (by rfl) (hO.out.alloc _) (by rfl) (Sl.newest (n := 1) (by simp) (by rfl) (by decide)) (by simp [Value.oneCell']) (by omega) (by omega) (by simp; omega) ?_; intro A' cap' wn hown3 hgr3 hat3; have HO3 := iD hown3; have HG3 := iD hgr3; clear hown3 hgr3 hat3))
    have HN : Hid (zQ wn (w.heap.size + 4) A' (m + 1) cap' (xH (i + 1) F.st d true)) := by
     unfold Hid zQ
     rw [vc, if_pos (by rw [if_pos (by have := HID.out; omega)]), zw]
     exact HO3.out
    have HSN : Hid (St4 w #[.slice An nn cn, .slice (some ⟨bd, off, none⟩) nd cd] #[.slice As n c, .slice Al F.ls.length cl, .slice At nt ct] #[.int .i64 4, .int .i64 (d : Int), .int .i64 p, .int .i64 q] #[.slice none 0 0, .slice none 0 0, .slice none 0 0] wn) := (hS.out.later ((Below.refl _ _).alloc lR _)).gr HG3.out (fun g e => (hO.out.lt g e).1)
    refine Handed.intro (nd - (i + 1)) (by omega) (hJ1 _ _ _ (uP.back 16 17 ?_ (by kernel_rfl)))
    dsimp only [gt]
    exact ⟨i + 1, m + 1, cap', A', rfl, by go_num, by omega, rfl, HN, HSN⟩
   ·have qx : ((i : Int) != (d : Int)) = true := by simp; omega
    have qy : ((i : Int) == (d : Int)) = false := by simp; omega
    have qxn : (i != d) = true := by simpa using hid
    have qyn : (i == d) = false := by simpa using hid
    go_wp2_with fail
    refine (xB At nt ct F.st i wr ((HH.out.ht.below hS.out.bl lR).more hS.out.bl.size)).mono ?_
    rintro e w5 ⟨rfl, rfl⟩
    by_cases hmi : (i : Int) ∈ F.st
    ·rw [decide_eq_true hmi]
     go_wp2_with (at_builtin; go_must (refine zW rfl (.tmp 187) (.tmp 189) rfl yX (by rfl) (hO.out.alloc _) (by rfl) (Sl.newest (n := 1) (by simp) (by rfl) (by decide)) (by simp [Value.oneCell']) (by omega) (by omega) (by simp; omega) ?_; intro A' cap' wn hown3 hgr3 hat3; have HO3 := iD hown3; have HG3 := iD hgr3; clear hown3 hgr3 hat3))
     have HN : Hid (zQ wn (w.heap.size + 4) A' (m + 1) cap' (xH (i + 1) F.st d true)) := by
      unfold Hid zQ
      rw [vc, if_pos (by rw [if_neg (by omega)]; exact decide_eq_true hmi), zw]
      exact HO3.out
     have HSN : Hid (St4 w #[.slice An nn cn, .slice (some ⟨bd, off, none⟩) nd cd] #[.slice As n c, .slice Al F.ls.length cl, .slice At nt ct] #[.int .i64 4, .int .i64 (d : Int), .int .i64 p, .int .i64 q] #[.slice none 0 0, .slice none 0 0, .slice none 0 0] wn) := (hS.out.later ((Below.refl _ _).alloc lR _)).gr HG3.out (fun g e => (hO.out.lt g e).1)
     refine Handed.intro (nd - (i + 1)) (by omega) (hJ1 _ _ _ (uP.back 16 17 ?_ (by kernel_rfl)))
     dsimp only [gt]
     exact ⟨i + 1, m + 1, cap', A', rfl, by go_num, by omega, rfl, HN, HSN⟩
    ·rw [decide_eq_false hmi]
     go_wp2_with fail
     have HN : Hid (zQ wr (w.heap.size + 4) A m cc (xH (i + 1) F.st d true)) := by
      unfold Hid
      rw [vc, if_neg (by rw [if_neg (by omega)]; simpa using hmi), List.append_nil]
      exact hO.out
     refine Handed.intro (nd - (i + 1)) (by omega) (hJ1 _ _ _ (uP.back 16 17 ?_ (by kernel_rfl)))
     dsimp only [gt]
     exact ⟨i + 1, m, cc, A, rfl, by go_num, by omega, rfl, HN, hS⟩
  ·obtain rfl : i = nd := by omega
   have hii : decide (i < i) = false := by simp
   have y2 := hS.out.b1.frozen 2
   have HST : Hid (St4 w #[.slice An nn cn, .slice (some ⟨bd, off, none⟩) i cd] #[.slice As n c, .slice Al F.ls.length cl, .slice A m cc] #[.int .i64 4, .int .i64 (d : Int), .int .i64 p, .int .i64 q] #[.slice none 0 0, .slice none 0 0, .slice none 0 0] (wr.setCell ⟨w.heap.size + 1, 2, none⟩ (.slice A m cc))) := hS.out.fld 2 _
   have HOT := iD (zm (x := w.heap.size + 1) (i := 2) (u := .slice A m cc) hO.out (by omega))
   clear hml
   go_upto_region 45 with (fail)
   clear k0 k1 f0 f1 f2 e0 e1 e2 e3 y2
   generalize World.setCell wr _ _ = wt at *
   obtain ⟨f0, f1, f2⟩ := HST.out.fc
   have HTO : Hid (yu ds F 4 d p q = ⟨F.s, F.ls, xH i F.st d true⟩) := by
    unfold Hid yu; rw [if_neg (by decide), if_pos (by decide), HL2.out]; rfl
   have HR : Hid (zR ns ds F 4 d p q = 0) := by unfold Hid; rw [HRV.out]; unfold yB; rw [if_neg (by decide), if_neg (by decide), if_neg (by decide), if_pos (by decide)]
   obtain ⟨d0, d1, d2⟩ := HST.out.oc
   obtain ⟨y0, y1, y2⟩ := HST.out.oz
   have HSY := iD (HST.out.out (.slice As n c) (.slice Al F.ls.length cl) (.slice A m cc))
   have HAO := iD HOT.out
   have HFZ : Hid (Fd3 (((wt.setCell ⟨w.heap.size + 3, 0, none⟩ (.slice As n c)).setCell ⟨w.heap.size + 3, 1, none⟩ (.slice Al F.ls.length cl)).setCell ⟨w.heap.size + 3, 2, none⟩ (.slice A m cc)) As n c Al F.ls.length cl A m cc ⟨F.s, F.ls, xH i F.st d true⟩) := ⟨(Sl.out3 (x := w.heap.size + 3) (HH.out.hs.below HST.out.bl lR) (by omega)).more (by have := HST.out.bl.size; simp; omega), (Sl.out3 (x := w.heap.size + 3) (HH.out.hl.below HST.out.bl lR) (by omega)).more (by have := HST.out.bl.size; simp; omega), (Sl.of_own (wG (x := w.heap.size + 3) HOT.out (by omega)))⟩
   go_wp2_with fail
   clear d0 d1 d2 y0 y1 y2
   generalize World.setCell (World.setCell (World.setCell wt _ _) _ _) _ _ = wz at *
   obtain ⟨t0, t1, t2⟩ := HSY.out.oc
   exact bodyPost_ret (v := .tuple #[.agg #[.slice As n c, .slice Al F.ls.length cl, .slice A m cc], .int .i64 0]) (by simp [results, Tryz.results13, go_sem, t0, t1, t2]) rfl ⟨.inr ⟨HR.out, _, _, _, _, _, _, _, _, _, rfl, by unfold Hid; rw [HTO.out]; exact HFZ.out, fun g hg h1 h2 _ => ⟨h1, h2, ta HAO.out (by omega)⟩⟩, HSY.out.bl⟩
 have qk4 : (k == 4) = false := by simpa using h4
 by_cases h5 : k = 5
 ·subst h5
  by_cases hp : p = 0; rotate_left
  ·have qp : (p != 0) = true := by simpa using hp
   have HR : Hid (zR ns ds F 5 d p q = 14) := by unfold Hid; rw [HRU.out, if_pos (by unfold xx; rw [if_neg (by decide), if_neg (by decide), if_pos (by decide)]; simp [hp])]
   obtain ⟨d0, d1, d2⟩ := HS2.out.oc
   obtain ⟨y0, y1, y2⟩ := HS2.out.oz
   have HSY := iD (HS2.out.out (.slice none 0 0) (.slice none 0 0) (.slice none 0 0))
   go_wp2_with fail
   clear d0 d1 d2 y0 y1 y2
   generalize World.setCell (World.setCell (World.setCell w2 _ _) _ _) _ _ = wz at *
   obtain ⟨t0, t1, t2⟩ := HSY.out.oc
   exact bodyPost_ret (v := .tuple #[.agg #[.slice none 0 0, .slice none 0 0, .slice none 0 0], .int .i64 14]) (by simp [results, Tryz.results13, go_sem, t0, t1, t2]) rfl ⟨.inl ⟨by rw [HR.out]; decide, by rw [HR.out]⟩, HSY.out.bl⟩
  have qp : (p != 0) = false := by simpa using hp
  by_cases hq : q = 0; rotate_left
  ·have qq : (q != 0) = true := by simpa using hq
   have HR : Hid (zR ns ds F 5 d p q = 14) := by unfold Hid; rw [HRU.out, if_pos (by unfold xx; rw [if_neg (by decide), if_neg (by decide), if_pos (by decide)]; simp [hq])]
   obtain ⟨d0, d1, d2⟩ := HS2.out.oc
   obtain ⟨y0, y1, y2⟩ := HS2.out.oz
   have HSY := iD (HS2.out.out (.slice none 0 0) (.slice none 0 0) (.slice none 0 0))
   go_wp2_with fail
   clear d0 d1 d2 y0 y1 y2
   generalize World.setCell (World.setCell (World.setCell w2 _ _) _ _) _ _ = wz at *
   obtain ⟨t0, t1, t2⟩ := HSY.out.oc
   exact bodyPost_ret (v := .tuple #[.agg #[.slice none 0 0, .slice none 0 0, .slice none 0 0], .int .i64 14]) (by simp [results, Tryz.results13, go_sem, t0, t1, t2]) rfl ⟨.inl ⟨by rw [HR.out]; decide, by rw [HR.out]⟩, HSY.out.bl⟩
  have qq : (q != 0) = false := by simpa using hq
  have HRV : Hid (zR ns ds F 5 d p q = yB ns ds F 5 d p q) := by unfold Hid; rw [HRU.out, if_neg (by unfold xx; rw [if_neg (by decide), if_neg (by decide), if_pos (by decide)]; simp [hp, hq])]
  clear HRU
  have c1 := HKC.out w2 HS2.out.bl
  obtain ⟨f0, f1, f2⟩ := HS2.out.fc
  go_wp2_with fail
  clear c1 f0 f1 f2 e0 e1 e2 e3 k0 k1
  refine (yY Al F.ls.length cl w.heap.size F.ls d w2 (HH.out.hl.below HS2.out.bl lR) HS2.out.bl.size).mono ?_
  rintro e w3 ⟨rfl, hb3⟩
  have HS3 := iD (HS2.out.later hb3)
  clear hb3 HS2
  unfold uD
  rw [← HLK.out]
  obtain ⟨f0, f1, f2⟩ := HS3.out.fc
  obtain ⟨e0, e1, e2, e3⟩ := HS3.out.ec
  obtain ⟨k0, k1⟩ := HS3.out.nc
  go_wp2_with fail
  refine (xB At nt ct F.st d w3 ((HH.out.ht.below HS3.out.bl lR).more HS3.out.bl.size)).mono ?_
  rintro e w4 ⟨rfl, rfl⟩
  rw [← HSK.out]
  go_wp2_with fail
  clear e0 e1 e2 e3 k0 k1 f0 f1 f2
  have hH3 : Hid (w.heap.size + 4 ≤ w3.heap.size) := HS3.out.b3.lt
  refine xw [(15, 0), (0, 2), (0, 3), (140, 0), (31, 1), (62, 0)] 16 17 (nd) (RsR w #[.slice An nn cn, .slice (some ⟨bd, off, none⟩) nd cd] #[.slice As n c, .slice Al F.ls.length cl, .slice At nt ct] #[.int .i64 5, .int .i64 (d : Int), .int .i64 p, .int .i64 q] #[.slice none 0 0, .slice none 0 0, .slice none 0 0] F.st (d : Int) false nd) (by (try dsimp only [gt]); exact ⟨0, 0, 0, none, rfl, rfl, Nat.zero_le _, rfl, World.ownsRow_nil _ _ _ _, HS3⟩) (by kernel_rfl) ?_
  intro u1 p16 p17 gk wr a hrel ha J1 K1 hJ1 hK1
  dsimp only [zi, v2, Nat.reduceAdd] at ha
  subst ha
  clear HS3
  obtain ⟨i, m, cc, A, rfl, rfl, hi, rfl, hO, hS⟩ := hrel
  obtain ⟨k0, k1⟩ := hS.out.nc
  obtain ⟨f0, f1, f2⟩ := hS.out.fc
  obtain ⟨e0, e1, e2, e3⟩ := hS.out.ec
  have hml : m ≤ i := by have := pP (rQ i F.st d false); rw [hO.out.len] at this; exact this
  have hsz := hS.out.b3.lt
  have hnd64 : nd ≤ 64 := by have := HL2.out; omega
  by_cases hlt : i < nd
  ·by_cases hid : i = d
   ·have qx : ((i : Int) != (d : Int)) = false := by simp; omega
    have qy : ((i : Int) == (d : Int)) = true := by simp; omega
    have qxn : (i != d) = false := by simpa using hid
    have qyn : (i == d) = true := by simpa using hid
    have HID := iD hid
    clear hid
    go_wp2_with fail
    have HN : Hid (zQ wr (w.heap.size + 4) A m cc (xH (i + 1) F.st d false)) := by
     unfold Hid
     rw [vc, if_neg (by rw [if_pos (by have := HID.out; omega)]; simp), List.append_nil]
     exact hO.out
    refine Handed.intro (nd - (i + 1)) (by omega) (hJ1 _ _ _ (uP.back 16 17 ?_ (by kernel_rfl)))
    dsimp only [gt]
    exact ⟨i + 1, m, cc, A, rfl, by go_num, by omega, rfl, HN, hS⟩
   ·have qx : ((i : Int) != (d : Int)) = true := by simp; omega
    have qy : ((i : Int) == (d : Int)) = false := by simp; omega
    have qxn : (i != d) = true := by simpa using hid
    have qyn : (i == d) = false := by simpa using hid
    go_wp2_with fail
    refine (xB At nt ct F.st i wr ((HH.out.ht.below hS.out.bl lR).more hS.out.bl.size)).mono ?_
    rintro e w5 ⟨rfl, rfl⟩
    by_cases hmi : (i : Int) ∈ F.st
    ·rw [decide_eq_true hmi]
     go_wp2_with (at_builtin; go_must (refine zW rfl (.tmp 187) (.tmp 189) rfl yX (by rfl) (hO.out.alloc _) (by rfl) (Sl.newest (n := 1) (by simp) (by rfl) (by decide)) (by simp [Value.oneCell']) (by omega) (by omega) (by simp; omega) ?_; intro A' cap' wn hown3 hgr3 hat3; have HO3 := iD hown3; have HG3 := iD hgr3; clear hown3 hgr3 hat3))
     have HN : Hid (zQ wn (w.heap.size + 4) A' (m + 1) cap' (xH (i + 1) F.st d false)) := by
      unfold Hid zQ
      rw [vc, if_pos (by rw [if_neg (by omega)]; exact decide_eq_true hmi), zw]
      exact HO3.out
     have HSN : Hid (St4 w #[.slice An nn cn, .slice (some ⟨bd, off, none⟩) nd cd] #[.slice As n c, .slice Al F.ls.length cl, .slice At nt ct] #[.int .i64 5, .int .i64 (d : Int), .int .i64 p, .int .i64 q] #[.slice none 0 0, .slice none 0 0, .slice none 0 0] wn) := (hS.out.later ((Below.refl _ _).alloc lR _)).gr HG3.out (fun g e => (hO.out.lt g e).1)
     refine Handed.intro (nd - (i + 1)) (by omega) (hJ1 _ _ _ (uP.back 16 17 ?_ (by kernel_rfl)))
     dsimp only [gt]
     exact ⟨i + 1, m + 1, cap', A', rfl, by go_num, by omega, rfl, HN, HSN⟩
    ·rw [decide_eq_false hmi]
     go_wp2_with fail
     have HN : Hid (zQ wr (w.heap.size + 4) A m cc (xH (i + 1) F.st d false)) := by
      unfold Hid
      rw [vc, if_neg (by rw [if_neg (by omega)]; simpa using hmi), List.append_nil]
      exact hO.out
     refine Handed.intro (nd - (i + 1)) (by omega) (hJ1 _ _ _ (uP.back 16 17 ?_ (by kernel_rfl)))
     dsimp only [gt]
     exact ⟨i + 1, m, cc, A, rfl, by go_num, by omega, rfl, HN, hS⟩
  ·obtain rfl : i = nd := by omega
   have hii : decide (i < i) = false := by simp
   have y2 := hS.out.b1.frozen 2
   have HST : Hid (St4 w #[.slice An nn cn, .slice (some ⟨bd, off, none⟩) i cd] #[.slice As n c, .slice Al F.ls.length cl, .slice A m cc] #[.int .i64 5, .int .i64 (d : Int), .int .i64 p, .int .i64 q] #[.slice none 0 0, .slice none 0 0, .slice none 0 0] (wr.setCell ⟨w.heap.size + 1, 2, none⟩ (.slice A m cc))) := hS.out.fld 2 _
   have HOT := iD (zm (x := w.heap.size + 1) (i := 2) (u := .slice A m cc) hO.out (by omega))
   clear hml
   go_upto_region 45 with (fail)
   clear k0 k1 f0 f1 f2 e0 e1 e2 e3 y2
   generalize World.setCell wr _ _ = wt at *
   obtain ⟨f0, f1, f2⟩ := HST.out.fc
   have HTO : Hid (yu ds F 5 d p q = ⟨F.s, F.ls, xH i F.st d false⟩) := by
    unfold Hid yu; rw [if_neg (by decide), if_pos (by decide), HL2.out]; rfl
   have HR : Hid (zR ns ds F 5 d p q = 0) := by unfold Hid; rw [HRV.out]; unfold yB; rw [if_neg (by decide), if_neg (by decide), if_neg (by decide), if_pos (by decide)]
   obtain ⟨d0, d1, d2⟩ := HST.out.oc
   obtain ⟨y0, y1, y2⟩ := HST.out.oz
   have HSY := iD (HST.out.out (.slice As n c) (.slice Al F.ls.length cl) (.slice A m cc))
   have HAO := iD HOT.out
   have HFZ : Hid (Fd3 (((wt.setCell ⟨w.heap.size + 3, 0, none⟩ (.slice As n c)).setCell ⟨w.heap.size + 3, 1, none⟩ (.slice Al F.ls.length cl)).setCell ⟨w.heap.size + 3, 2, none⟩ (.slice A m cc)) As n c Al F.ls.length cl A m cc ⟨F.s, F.ls, xH i F.st d false⟩) := ⟨(Sl.out3 (x := w.heap.size + 3) (HH.out.hs.below HST.out.bl lR) (by omega)).more (by have := HST.out.bl.size; simp; omega), (Sl.out3 (x := w.heap.size + 3) (HH.out.hl.below HST.out.bl lR) (by omega)).more (by have := HST.out.bl.size; simp; omega), (Sl.of_own (wG (x := w.heap.size + 3) HOT.out (by omega)))⟩
   go_wp2_with fail
   clear d0 d1 d2 y0 y1 y2
   generalize World.setCell (World.setCell (World.setCell wt _ _) _ _) _ _ = wz at *
   obtain ⟨t0, t1, t2⟩ := HSY.out.oc
   exact bodyPost_ret (v := .tuple #[.agg #[.slice As n c, .slice Al F.ls.length cl, .slice A m cc], .int .i64 0]) (by simp [results, Tryz.results13, go_sem, t0, t1, t2]) rfl ⟨.inr ⟨HR.out, _, _, _, _, _, _, _, _, _, rfl, by unfold Hid; rw [HTO.out]; exact HFZ.out, fun g hg h1 h2 _ => ⟨h1, h2, ta HAO.out (by omega)⟩⟩, HSY.out.bl⟩
 have qk5 : (k == 5) = false := by simpa using h5
 by_cases h6 : k = 6
 ·subst h6
  have HRV : Hid (zR ns ds F 6 d p q = yB ns ds F 6 d p q) := by unfold Hid; rw [HRU.out, if_neg (by unfold xx; rw [if_pos rfl]; simp)]
  clear HRU
  have c1 := HKC.out w2 HS2.out.bl
  obtain ⟨f0, f1, f2⟩ := HS2.out.fc
  go_wp2_with fail
  clear c1 f0 f1 f2 e0 e1 e2 e3 k0 k1
  refine (yY Al F.ls.length cl w.heap.size F.ls d w2 (HH.out.hl.below HS2.out.bl lR) HS2.out.bl.size).mono ?_
  rintro e w3 ⟨rfl, hb3⟩
  have HS3 := iD (HS2.out.later hb3)
  clear hb3 HS2
  unfold uD
  rw [← HLK.out]
  obtain ⟨f0, f1, f2⟩ := HS3.out.fc
  obtain ⟨e0, e1, e2, e3⟩ := HS3.out.ec
  obtain ⟨k0, k1⟩ := HS3.out.nc
  go_wp2_with fail
  refine (xB At nt ct F.st d w3 ((HH.out.ht.below HS3.out.bl lR).more HS3.out.bl.size)).mono ?_
  rintro e w4 ⟨rfl, rfl⟩
  rw [← HSK.out]
  obtain ⟨bs, os, sv, hAs, hbs, hsv, hcs⟩ := (HH.out.hs.below HS3.out.bl lR).at1 hdS.out
  subst hAs
  have HSV := iD (q9 hsv)
  have HP : Hid (∀ W : World, Calls Tryz.prog 38 #[.int .i64 p] W fun e w' => e = .returned (.bool (yv p)) ∧ W = w') := fun W => wV p W
  clear hsv
  have hnm := HH.out.hs.le
  have hdn2 := hdS.out
  rcases hpp : yv p with _ | _
  ·have HR : Hid (zR ns ds F 6 d p q = 10) := by unfold Hid; rw [HRV.out]; unfold yB; rw [if_neg (by decide), if_neg (by decide), if_neg (by decide), if_neg (by decide), if_pos rfl]; rw [if_neg (by simp [hpp])]
   rw [hpp] at HP
   go_wp2_with fail
   go_quiet ((go_at_call 38; exact vf (HP.out _)))
   have HS4 := iD (HS3.out.later (below_drewN bR nq))
   clear hcs f0 f1 f2 e0 e1 e2 e3 k0 k1
   generalize World.drewN w3 nq = w4 at *
   obtain ⟨d0, d1, d2⟩ := HS4.out.oc
   obtain ⟨y0, y1, y2⟩ := HS4.out.oz
   have HSY := iD (HS4.out.out (.slice none 0 0) (.slice none 0 0) (.slice none 0 0))
   go_wp2_with fail
   clear d0 d1 d2 y0 y1 y2
   generalize World.setCell (World.setCell (World.setCell w4 _ _) _ _) _ _ = wz at *
   obtain ⟨t0, t1, t2⟩ := HSY.out.oc
   exact bodyPost_ret (v := .tuple #[.agg #[.slice none 0 0, .slice none 0 0, .slice none 0 0], .int .i64 10]) (by simp [results, Tryz.results13, go_sem, t0, t1, t2]) rfl ⟨.inl ⟨by rw [HR.out]; decide, by rw [HR.out]⟩, HSY.out.bl⟩
  rw [hpp] at HP
  by_cases hv : sv = p; rotate_left
  ·have qv : (sv != p) = true := by simpa using hv
   have HR : Hid (zR ns ds F 6 d p q = 10) := by unfold Hid; rw [HRV.out]; unfold yB; rw [if_neg (by decide), if_neg (by decide), if_neg (by decide), if_neg (by decide), if_pos rfl]; rw [if_neg (by rw [Int.toNat_natCast, HSV.out]; simp [hv])]
   go_wp2_with fail
   go_quiet ((go_at_call 38; exact vf (HP.out _)))
   have HS4 := iD (HS3.out.later (below_drewN bR nq))
   clear hcs f0 f1 f2 e0 e1 e2 e3 k0 k1
   generalize World.drewN w3 nq = w4 at *
   obtain ⟨d0, d1, d2⟩ := HS4.out.oc
   obtain ⟨y0, y1, y2⟩ := HS4.out.oz
   have HSY := iD (HS4.out.out (.slice none 0 0) (.slice none 0 0) (.slice none 0 0))
   go_wp2_with fail
   clear d0 d1 d2 y0 y1 y2
   generalize World.setCell (World.setCell (World.setCell w4 _ _) _ _) _ _ = wz at *
   obtain ⟨t0, t1, t2⟩ := HSY.out.oc
   exact bodyPost_ret (v := .tuple #[.agg #[.slice none 0 0, .slice none 0 0, .slice none 0 0], .int .i64 10]) (by simp [results, Tryz.results13, go_sem, t0, t1, t2]) rfl ⟨.inl ⟨by rw [HR.out]; decide, by rw [HR.out]⟩, HSY.out.bl⟩
  have qv : (sv != p) = false := by simpa using hv
  have HRA : Hid (zR ns ds F 6 d p q = zq ns ds F.ls ⟨(d : Int), p, q⟩) := by unfold Hid; rw [HRV.out]; unfold yB; rw [if_neg (by decide), if_neg (by decide), if_neg (by decide), if_neg (by decide), if_pos rfl]; rw [if_pos ⟨hpp, by rw [Int.toNat_natCast, HSV.out]; exact hv⟩]
  go_wp2_with fail
  go_quiet ((go_at_call 38; exact vf (HP.out _)))
  have HS4 := iD (HS3.out.later (below_drewN bR nq))
  clear hcs f0 f1 f2 e0 e1 e2 e3 k0 k1 HS3
  generalize World.drewN w3 nq = w4 at *
  obtain ⟨f0, f1, f2⟩ := HS4.out.fc
  obtain ⟨e0, e1, e2, e3⟩ := HS4.out.ec
  obtain ⟨k0, k1⟩ := HS4.out.nc
  go_wp2_with fail
  clear f0 f1 f2 e0 e1 e2 e3 k0 k1
  refine (oK An (some ⟨bd, off, none⟩) Al nn cn nd cd cl w.heap.size w.heap.size w.heap.size ns ds F.ls d p q w4 (HH.out.hn.below HS4.out.bl lR) (HH.out.hd.below HS4.out.bl lR) (HH.out.hl.below HS4.out.bl lR) HS4.out.bl.size HS4.out.bl.size HS4.out.bl.size HH.out.sn HH.out.sd).mono ?_
  rintro e wa ⟨⟨h1, rfl⟩ | ⟨h1, A', c', rfl, hO⟩, hba⟩
  ·have HSA := iD (HS4.out.later hba.out)
   obtain ⟨E, hE⟩ : ∃ E, E = zq ns ds F.ls ⟨(d : Int), p, q⟩ := ⟨_, rfl⟩
   rw [← hE] at h1 HRA ⊢
   have HR := iD HRA.out
   have HNZ := iD h1
   have qe : (E != 0) = true := by simpa using h1
   clear h1 hE hba
   obtain ⟨d0, d1, d2⟩ := HSA.out.oc
   obtain ⟨y0, y1, y2⟩ := HSA.out.oz
   have HSY := iD (HSA.out.out (.slice none 0 0) (.slice none 0 0) (.slice none 0 0))
   go_wp2_with fail
   clear d0 d1 d2 y0 y1 y2
   generalize World.setCell (World.setCell (World.setCell wa _ _) _ _) _ _ = wz at *
   obtain ⟨t0, t1, t2⟩ := HSY.out.oc
   exact bodyPost_ret (v := .tuple #[.agg #[.slice none 0 0, .slice none 0 0, .slice none 0 0], .int .i64 E]) (by simp [results, Tryz.results13, go_sem, t0, t1, t2]) rfl ⟨.inl ⟨by rw [HR.out]; exact HNZ.out, by rw [HR.out]⟩, HSY.out.bl⟩
  ·have HSA := iD (HS4.out.later hba.out)
   have HR : Hid (zR ns ds F 6 d p q = 0) := by unfold Hid; rw [HRA.out, h1]
   have HTO : Hid (yu ds F 6 d p q = ⟨F.s, wI ⟨(d : Int), p, q⟩ F.ls, F.st⟩) := rfl
   have HOA : Hid (wa.ownsRow (w.heap.size + 4) 46 3 (.slice A' (F.ls.length + 1) c') (F.ls.length + 1) ((wI ⟨(d : Int), p, q⟩ F.ls).flatMap Lk.cells)) := World.ownsRow.mono hO.out HS4.out.b3.lt
   clear hO hba h1
   have y1 := HSA.out.b1.frozen 1
   obtain ⟨f0, f1, f2⟩ := HSA.out.fc
   have HST : Hid (St4 w #[.slice An nn cn, .slice (some ⟨bd, off, none⟩) nd cd] #[.slice (some ⟨bs, os, none⟩) n c, .slice A' (F.ls.length + 1) c', .slice At nt ct] #[.int .i64 6, .int .i64 (d : Int), .int .i64 p, .int .i64 q] #[.slice none 0 0, .slice none 0 0, .slice none 0 0] (wa.setCell ⟨w.heap.size + 1, 1, none⟩ (.slice A' (F.ls.length + 1) c'))) := HSA.out.fld 1 _
   have HOT := iD (zm (x := w.heap.size + 1) (i := 1) (u := .slice A' (F.ls.length + 1) c') HOA.out (by omega))
   go_upto_region 53 with (fail)
   clear f0 f1 f2 y1
   generalize World.setCell wa _ _ = wt at *
   obtain ⟨f0, f1, f2⟩ := HST.out.fc
   obtain ⟨d0, d1, d2⟩ := HST.out.oc
   obtain ⟨y0, y1, y2⟩ := HST.out.oz
   have HSY := iD (HST.out.out (.slice (some ⟨bs, os, none⟩) n c) (.slice A' (F.ls.length + 1) c') (.slice At nt ct))
   have HAO := iD HOT.out
   have HFZ : Hid (Fd3 (((wt.setCell ⟨w.heap.size + 3, 0, none⟩ (.slice (some ⟨bs, os, none⟩) n c)).setCell ⟨w.heap.size + 3, 1, none⟩ (.slice A' (F.ls.length + 1) c')).setCell ⟨w.heap.size + 3, 2, none⟩ (.slice At nt ct)) (some ⟨bs, os, none⟩) n c A' (F.ls.length + 1) c' At nt ct ⟨F.s, wI ⟨(d : Int), p, q⟩ F.ls, F.st⟩) := ⟨(Sl.out3 (x := w.heap.size + 3) (HH.out.hs.below HST.out.bl lR) (by omega)).more (by have := HST.out.bl.size; simp; omega), (Sl.of_own (wG (x := w.heap.size + 3) HOT.out (by omega))), (Sl.out3 (x := w.heap.size + 3) (HH.out.ht.below HST.out.bl lR) (by omega)).more (by have := HST.out.bl.size; simp; omega)⟩
   go_wp2_with fail
   clear d0 d1 d2 y0 y1 y2
   generalize World.setCell (World.setCell (World.setCell wt _ _) _ _) _ _ = wz at *
   obtain ⟨t0, t1, t2⟩ := HSY.out.oc
   exact bodyPost_ret (v := .tuple #[.agg #[.slice (some ⟨bs, os, none⟩) n c, .slice A' (F.ls.length + 1) c', .slice At nt ct], .int .i64 0]) (by simp [results, Tryz.results13, go_sem, t0, t1, t2]) rfl ⟨.inr ⟨HR.out, _, _, _, _, _, _, _, _, _, rfl, by unfold Hid; rw [HTO.out]; exact HFZ.out, fun g hg h1 _ h3 => ⟨h1, ta HAO.out (by omega), h3⟩⟩, HSY.out.bl⟩
 have qk6 : (k == 6) = false := by simpa using h6
 by_cases h7 : k = 7
 ·subst h7
  by_cases hp : p = 0; rotate_left
  ·have qp : (p != 0) = true := by simpa using hp
   have HR : Hid (zR ns ds F 7 d p q = 14) := by unfold Hid; rw [HRU.out, if_pos (by unfold xx; rw [if_neg (by decide), if_pos rfl]; simpa using hp)]
   obtain ⟨d0, d1, d2⟩ := HS2.out.oc
   obtain ⟨y0, y1, y2⟩ := HS2.out.oz
   have HSY := iD (HS2.out.out (.slice none 0 0) (.slice none 0 0) (.slice none 0 0))
   go_wp2_with fail
   clear d0 d1 d2 y0 y1 y2
   generalize World.setCell (World.setCell (World.setCell w2 _ _) _ _) _ _ = wz at *
   obtain ⟨t0, t1, t2⟩ := HSY.out.oc
   exact bodyPost_ret (v := .tuple #[.agg #[.slice none 0 0, .slice none 0 0, .slice none 0 0], .int .i64 14]) (by simp [results, Tryz.results13, go_sem, t0, t1, t2]) rfl ⟨.inl ⟨by rw [HR.out]; decide, by rw [HR.out]⟩, HSY.out.bl⟩
  have qp : (p != 0) = false := by simpa using hp
  have HRV : Hid (zR ns ds F 7 d p q = yB ns ds F 7 d p q) := by unfold Hid; rw [HRU.out, if_neg (by unfold xx; rw [if_neg (by decide), if_pos rfl]; simpa using hp)]
  clear HRU
  have c1 := HKC.out w2 HS2.out.bl
  obtain ⟨f0, f1, f2⟩ := HS2.out.fc
  go_wp2_with fail
  clear c1 f0 f1 f2 e0 e1 e2 e3 k0 k1
  refine (yY Al F.ls.length cl w.heap.size F.ls d w2 (HH.out.hl.below HS2.out.bl lR) HS2.out.bl.size).mono ?_
  rintro e w3 ⟨rfl, hb3⟩
  have HS3 := iD (HS2.out.later hb3)
  clear hb3 HS2
  unfold uD
  rw [← HLK.out]
  obtain ⟨f0, f1, f2⟩ := HS3.out.fc
  obtain ⟨e0, e1, e2, e3⟩ := HS3.out.ec
  obtain ⟨k0, k1⟩ := HS3.out.nc
  go_wp2_with fail
  refine (xB At nt ct F.st d w3 ((HH.out.ht.below HS3.out.bl lR).more HS3.out.bl.size)).mono ?_
  rintro e w4 ⟨rfl, rfl⟩
  rw [← HSK.out]
  go_wp2_with fail
  clear f0 f1 f2 e0 e1 e2 e3 k0 k1
  refine (oG An (some ⟨bd, off, none⟩) Al nn cn nd cd F.ls.length cl w.heap.size w.heap.size w.heap.size ns ds F.ls d q w3 rfl (HH.out.hn.below HS3.out.bl lR) (HH.out.hd.below HS3.out.bl lR) (HH.out.hl.below HS3.out.bl lR) HS3.out.bl.size HS3.out.bl.size HS3.out.bl.size HH.out.sn HH.out.sd).mono ?_
  rintro e wa ⟨⟨h1, _⟩ | ⟨_, h1, rfl⟩ | ⟨_, ix, A', c', h1, rfl, hO⟩, hba⟩
  ·exact absurd HLE.out h1
  ·have HSA := iD (HS3.out.later hba.out)
   have HR : Hid (zR ns ds F 7 d p q = 15) := by unfold Hid; rw [HRV.out]; unfold yB; rw [if_neg (by decide), if_neg (by decide), if_neg (by decide), if_neg (by decide), if_neg (by decide), if_pos rfl]; rw [if_pos h1]
   clear h1 hba
   obtain ⟨d0, d1, d2⟩ := HSA.out.oc
   obtain ⟨y0, y1, y2⟩ := HSA.out.oz
   have HSY := iD (HSA.out.out (.slice none 0 0) (.slice none 0 0) (.slice none 0 0))
   go_wp2_with fail
   clear d0 d1 d2 y0 y1 y2
   generalize World.setCell (World.setCell (World.setCell wa _ _) _ _) _ _ = wz at *
   obtain ⟨t0, t1, t2⟩ := HSY.out.oc
   exact bodyPost_ret (v := .tuple #[.agg #[.slice none 0 0, .slice none 0 0, .slice none 0 0], .int .i64 15]) (by simp [results, Tryz.results13, go_sem, t0, t1, t2]) rfl ⟨.inl ⟨by rw [HR.out]; decide, by rw [HR.out]⟩, HSY.out.bl⟩
  ·have HSA := iD (HS3.out.later hba.out)
   have HR : Hid (zR ns ds F 7 d p q = 0) := by unfold Hid; rw [HRV.out]; unfold yB; rw [if_neg (by decide), if_neg (by decide), if_neg (by decide), if_neg (by decide), if_neg (by decide), if_pos rfl]; rw [if_neg (by rw [h1]; simp)]
   have HTO : Hid (yu ds F 7 d p q = ⟨F.s, F.ls.eraseIdx ix, F.st⟩) := by unfold Hid yu; rw [if_neg (by decide), if_neg (by decide), if_neg (by decide), if_pos rfl, h1]
   have HOA : Hid (wa.ownsRow (w.heap.size + 4) 46 3 (.slice A' (F.ls.length - 1) c') (F.ls.length - 1) ((F.ls.eraseIdx ix).flatMap Lk.cells)) := World.ownsRow.mono hO.out HS3.out.b3.lt
   clear hO hba h1
   have y1 := HSA.out.b1.frozen 1
   obtain ⟨f0, f1, f2⟩ := HSA.out.fc
   have HST : Hid (St4 w #[.slice An nn cn, .slice (some ⟨bd, off, none⟩) nd cd] #[.slice As n c, .slice A' (F.ls.length - 1) c', .slice At nt ct] #[.int .i64 7, .int .i64 (d : Int), .int .i64 p, .int .i64 q] #[.slice none 0 0, .slice none 0 0, .slice none 0 0] (wa.setCell ⟨w.heap.size + 1, 1, none⟩ (.slice A' (F.ls.length - 1) c'))) := HSA.out.fld 1 _
   have HOT := iD (zm (x := w.heap.size + 1) (i := 1) (u := .slice A' (F.ls.length - 1) c') HOA.out (by omega))
   go_upto_region 59 with (fail)
   clear f0 f1 f2 y1
   generalize World.setCell wa _ _ = wt at *
   obtain ⟨f0, f1, f2⟩ := HST.out.fc
   obtain ⟨d0, d1, d2⟩ := HST.out.oc
   obtain ⟨y0, y1, y2⟩ := HST.out.oz
   have HSY := iD (HST.out.out (.slice As n c) (.slice A' (F.ls.length - 1) c') (.slice At nt ct))
   have HAO := iD HOT.out
   have HFZ : Hid (Fd3 (((wt.setCell ⟨w.heap.size + 3, 0, none⟩ (.slice As n c)).setCell ⟨w.heap.size + 3, 1, none⟩ (.slice A' (F.ls.length - 1) c')).setCell ⟨w.heap.size + 3, 2, none⟩ (.slice At nt ct)) As n c A' (F.ls.length - 1) c' At nt ct ⟨F.s, F.ls.eraseIdx ix, F.st⟩) := ⟨(Sl.out3 (x := w.heap.size + 3) (HH.out.hs.below HST.out.bl lR) (by omega)).more (by have := HST.out.bl.size; simp; omega), (Sl.of_own (wG (x := w.heap.size + 3) HOT.out (by omega))), (Sl.out3 (x := w.heap.size + 3) (HH.out.ht.below HST.out.bl lR) (by omega)).more (by have := HST.out.bl.size; simp; omega)⟩
   go_wp2_with fail
   clear d0 d1 d2 y0 y1 y2
   generalize World.setCell (World.setCell (World.setCell wt _ _) _ _) _ _ = wz at *
   obtain ⟨t0, t1, t2⟩ := HSY.out.oc
   exact bodyPost_ret (v := .tuple #[.agg #[.slice As n c, .slice A' (F.ls.length - 1) c', .slice At nt ct], .int .i64 0]) (by simp [results, Tryz.results13, go_sem, t0, t1, t2]) rfl ⟨.inr ⟨HR.out, _, _, _, _, _, _, _, _, _, rfl, by unfold Hid; rw [HTO.out]; exact HFZ.out, fun g hg h1 _ h3 => ⟨h1, ta HAO.out (by omega), h3⟩⟩, HSY.out.bl⟩
 have qk7 : (k == 7) = false := by simpa using h7
 have qn6 : (k != 6) = true := by simpa using h6
 have qn7 : (k != 7) = true := by simpa using h7
 by_cases hq : q = 0; rotate_left
 ·have qq : (q != 0) = true := by simpa using hq
  have HR : Hid (zR ns ds F k d p q = 14) := by unfold Hid; rw [HRU.out, if_pos (by unfold xx; rw [if_neg h6, if_neg h7, if_neg (by omega)]; simpa using hq)]
  obtain ⟨d0, d1, d2⟩ := HS2.out.oc
  obtain ⟨y0, y1, y2⟩ := HS2.out.oz
  have HSY := iD (HS2.out.out (.slice none 0 0) (.slice none 0 0) (.slice none 0 0))
  go_wp2_with fail
  clear d0 d1 d2 y0 y1 y2
  generalize World.setCell (World.setCell (World.setCell w2 _ _) _ _) _ _ = wz at *
  obtain ⟨t0, t1, t2⟩ := HSY.out.oc
  exact bodyPost_ret (v := .tuple #[.agg #[.slice none 0 0, .slice none 0 0, .slice none 0 0], .int .i64 14]) (by simp [results, Tryz.results13, go_sem, t0, t1, t2]) rfl ⟨.inl ⟨by rw [HR.out]; decide, by rw [HR.out]⟩, HSY.out.bl⟩
 have qq : (q != 0) = false := by simpa using hq
 have HRV : Hid (zR ns ds F k d p q = yB ns ds F k d p q) := by unfold Hid; rw [HRU.out, if_neg (by unfold xx; rw [if_neg h6, if_neg h7, if_neg (by omega)]; simpa using hq)]
 clear HRU
 have c1 := HKC.out w2 HS2.out.bl
 obtain ⟨f0, f1, f2⟩ := HS2.out.fc
 go_wp2_with fail
 clear c1 f0 f1 f2 e0 e1 e2 e3 k0 k1
 refine (yY Al F.ls.length cl w.heap.size F.ls d w2 (HH.out.hl.below HS2.out.bl lR) HS2.out.bl.size).mono ?_
 rintro e w3 ⟨rfl, hb3⟩
 have HS3 := iD (HS2.out.later hb3)
 clear hb3 HS2
 unfold uD
 rw [← HLK.out]
 obtain ⟨f0, f1, f2⟩ := HS3.out.fc
 obtain ⟨e0, e1, e2, e3⟩ := HS3.out.ec
 obtain ⟨k0, k1⟩ := HS3.out.nc
 go_wp2_with fail
 refine (xB At nt ct F.st d w3 ((HH.out.ht.below HS3.out.bl lR).more HS3.out.bl.size)).mono ?_
 rintro e w4 ⟨rfl, rfl⟩
 rw [← HSK.out]
 have HR : Hid (zR ns ds F k d p q = 6) := by unfold Hid; rw [HRV.out]; unfold yB; rw [if_neg h1, if_neg h2, if_neg h3, if_neg (by omega), if_neg h6, if_neg h7]
 obtain ⟨d0, d1, d2⟩ := HS3.out.oc
 obtain ⟨y0, y1, y2⟩ := HS3.out.oz
 have HSY := iD (HS3.out.out (.slice none 0 0) (.slice none 0 0) (.slice none 0 0))
 go_wp2_with fail
 clear d0 d1 d2 y0 y1 y2
 generalize World.setCell (World.setCell (World.setCell w3 _ _) _ _) _ _ = wz at *
 obtain ⟨t0, t1, t2⟩ := HSY.out.oc
 exact bodyPost_ret (v := .tuple #[.agg #[.slice none 0 0, .slice none 0 0, .slice none 0 0], .int .i64 6]) (by simp [results, Tryz.results13, go_sem, t0, t1, t2]) rfl ⟨.inl ⟨by rw [HR.out]; decide, by rw [HR.out]⟩, HSY.out.bl⟩
end
end Go.Proofs.YtepicjpdhpojnaaGreatDoor
