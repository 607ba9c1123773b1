import Derived.Test.YtepicjpdhpojnaaGreatDoorS10
import Derived.Test.YtepicjpdhpojnaaGreatDoorS15
set_option maxRecDepth 100000
set_option maxHeartbeats 4000000
namespace Go.Proofs.YtepicjpdhpojnaaGreatDoor
open Go.RowKit
section
variable {w : World} {base B size n c x m cn : Nat} {e : TypeId} {A : Option Addr} {xs : List Value} {u v t : Value}
theorem Sl.out3 (h : Sl w B size A n c xs) (hB : B ≤ x) : Sl (((w.setCell ⟨x, 0, none⟩ u).setCell ⟨x, 1, none⟩ v).setCell ⟨x, 2, none⟩ t) B size A n c xs := ((h.setCell (p := ⟨x, 0, none⟩) hB u).setCell (p := ⟨x, 1, none⟩) hB v).setCell (p := ⟨x, 2, none⟩) hB t
theorem own_out3 (h : w.ownsRow base e size (.slice A n c) n xs) (hB : x < base) : (((w.setCell ⟨x, 0, none⟩ u).setCell ⟨x, 1, none⟩ v).setCell ⟨x, 2, none⟩ t).ownsRow base e size (.slice A n c) n xs := own_far (own_far (own_far h hB) hB) hB
end
def TurnPost (w : World) (n : Nat) (Al : Option Addr) (nl cl : Nat) (At : Option Addr) (nt ct : Nat) (s : List Int) (e : Ending) (w' : World) : Prop := ∃ (A' : Option Addr) (c' : Nat), e = .returned (.agg #[.slice A' n c', .slice Al nl cl, .slice At nt ct]) ∧ Hid (IntsO w' w.heap.size A' n c' s) ∧ Hid (Below w.heap.size w w')
theorem turn_any (As Al At : Option Addr) (n c nl cl nt ct : Nat) (s : List Int) (p : Int) (d : Nat) (w : World) (hs : Sl w w.heap.size 1 As n c (intsV s)) (hn : n ≤ 1000000) (hd : d < n) :
 Calls Tryz.prog 39 #[.agg #[.slice As n c, .slice Al nl cl, .slice At nt ct], .int .i64 (d : Int), .int .i64 p] w (TurnPost w n Al nl cl At nt ct (s.set d p)) := by
 have HB := Lib.hid (Bc.new w #[.slice As n c, .slice Al nl cl, .slice At nt ct])
 have hle := hs.le
 have HS := Lib.hid (hs.below HB.out.bl (Nat.le_refl _))
 clear hs
 go_enter Tryz.func39, Tryz.ntmps39
 go_upto_region 1 with (fail)
 generalize World.alloc (World.alloc w _) _ = w1 at *
 obtain ⟨b0, b1, b2⟩ := HB.out.cells
 have z0 := HB.out.b0.frozen 0
 go_upto_region 2 with (at_builtin; go_must (refine wpList_app rfl _ (.tmp 8) rfl el_int (by rfl) (World.ownsRow_nil _ w1.heap.size _ _) (by rfl) HS.out (ints_one _) (by omega) (by omega) (by omega) ?_; intro A' c' w2 hown7 hgr7 hat7; simp only [Nat.zero_add, List.nil_append] at hown7 hgr7 ⊢; have HO := Lib.hid hown7; have HG := Lib.hid hgr7; have hB2 : Below w1.heap.size w1 w2 := (below_none hgr7); have HB2 := Lib.hid (HB.out.later hB2); have HBB := Lib.hid hB2; have y0 := HB2.out.b0.cell 0; have zz := HB2.out.b0.frozen 0; clear hown7 hgr7 hat7 hB2))
 clear b0 b1 b2 z0 y0 zz
 have HO2 := Lib.hid (own_far (x := w.heap.size) (i := 0) (u := .slice A' n c') HO.out HB.out.b0.lt)
 have HB3 : Hid (Bc w #[.slice A' n c', .slice Al nl cl, .slice At nt ct] (w2.setCell ⟨w.heap.size, 0, none⟩ (.slice A' n c'))) := ⟨HB2.out.b0.set 0 _, HB2.out.b1.far (by simp) _, HB2.out.bl.setCell (by simp) _⟩
 generalize World.setCell w2 _ _ = w3 at *
 have HO3 : Hid (IntsO w3 w1.heap.size A' n c' s) := HO2.out
 clear HO2 HO HG HB2
 obtain ⟨tg, y, rfl, htg, htl, hy, hcy, hfy, hst⟩ := HO3.out.at hd
 obtain ⟨b0, b1, b2⟩ := HB3.out.cells
 have hsz : w.heap.size + 1 < w1.heap.size := HB.out.b1.lt
 have HO4 := Lib.hid (hst p)
 have HB4 : Hid (Bc w #[.slice (some ⟨tg, 0, none⟩) n c', .slice Al nl cl, .slice At nt ct] (w3.setCell ⟨tg, d, none⟩ (.int .i64 p))) := ⟨HB3.out.b0.far (by simp; omega) _, HB3.out.b1.far (by simp; omega) _, HB3.out.bl.setCell (by simp; omega) _⟩
 clear hst hy HO3
 go_upto_region 3 with (fail)
 clear b0 b1 b2 hcy hfy
 generalize World.setCell w3 _ _ = w4 at *
 obtain ⟨b0, b1, b2⟩ := HB4.out.cells
 have d0 : w4.cell? ⟨w.heap.size + 1, 0, none⟩ = some (.slice none 0 0) := HB4.out.b1.cell 0
 have d1 : w4.cell? ⟨w.heap.size + 1, 1, none⟩ = some (.slice none 0 0) := HB4.out.b1.cell 1
 have d2 : w4.cell? ⟨w.heap.size + 1, 2, none⟩ = some (.slice none 0 0) := HB4.out.b1.cell 2
 have y0 := HB4.out.b1.frozen 0; have y1 := HB4.out.b1.frozen 1; have y2 := HB4.out.b1.frozen 2
 go_wp2_with fail
 clear b0 b1 b2 d0 d1 d2 y0 y1 y2
 have HX : Hid (TurnPost w n Al nl cl At nt ct (s.set d p) (.returned (.agg #[.slice (some ⟨tg, 0, none⟩) n c', .slice Al nl cl, .slice At nt ct])) (((w4.setCell ⟨w.heap.size + 1, 0, none⟩ (.slice (some ⟨tg, 0, none⟩) n c')).setCell ⟨w.heap.size + 1, 1, none⟩ (.slice Al nl cl)).setCell ⟨w.heap.size + 1, 2, none⟩ (.slice At nt ct))) :=
  ⟨some ⟨tg, 0, none⟩, c', rfl, (own_out3 (x := w.heap.size + 1) HO4.out hsz).mono (by omega), ((HB4.out.bl.setCell (by simp) _).setCell (by simp) _).setCell (by simp) _⟩
 have HD : Hid (Blk (((w4.setCell ⟨w.heap.size + 1, 0, none⟩ (.slice (some ⟨tg, 0, none⟩) n c')).setCell ⟨w.heap.size + 1, 1, none⟩ (.slice Al nl cl)).setCell ⟨w.heap.size + 1, 2, none⟩ (.slice At nt ct)) (w.heap.size + 1) 35 #[.slice (some ⟨tg, 0, none⟩) n c', .slice Al nl cl, .slice At nt ct]) := ((HB4.out.b1.set 0 _).set 1 _).set 2 _
 generalize World.setCell (World.setCell (World.setCell w4 _ _) _ _) _ _ = x at *
 have d0 : x.cell? ⟨w.heap.size + 1, 0, none⟩ = some (.slice (some ⟨tg, 0, none⟩) n c') := HD.out.cell 0
 have d1 : x.cell? ⟨w.heap.size + 1, 1, none⟩ = some (.slice Al nl cl) := HD.out.cell 1
 have d2 : x.cell? ⟨w.heap.size + 1, 2, none⟩ = some (.slice At nt ct) := HD.out.cell 2
 exact bodyPost_ret (v := .agg #[.slice (some ⟨tg, 0, none⟩) n c', .slice Al nl cl, .slice At nt ct]) (by simp [results, Tryz.results39, go_sem, d0, d1, d2]) rfl HX.out
structure St4 (w : World) (cn cf ce co : Array Value) (wr : World) : Prop where
 b0 : Blk wr w.heap.size 30 cn
 b1 : Blk wr (w.heap.size + 1) 35 cf
 b2 : Blk wr (w.heap.size + 2) 44 ce
 b3 : Blk wr (w.heap.size + 3) 35 co
 bl : Below w.heap.size w wr
theorem St4.new (w : World) (cn cf ce co : Array Value) : St4 w cn cf ce co ((((w.alloc (.cells cn 30)).alloc (.cells cf 35)).alloc (.cells ce 44)).alloc (.cells co 35)) := by
 have g1 := Blk.new (w.alloc (.cells cn 30)) 35 cf
 have g2 := Blk.new ((w.alloc (.cells cn 30)).alloc (.cells cf 35)) 44 ce
 have g3 := Blk.new (((w.alloc (.cells cn 30)).alloc (.cells cf 35)).alloc (.cells ce 44)) 35 co
 simp only [World.size_alloc] at g1 g2 g3
 exact ⟨(((Blk.new w _ _).alloc _).alloc _).alloc _, (g1.alloc _).alloc _, g2.alloc _, g3, ((((Below.refl _ _).alloc (Nat.le_refl _) _).alloc (by simp) _).alloc (by simp; omega) _).alloc (by simp; omega) _⟩
section
variable {w wr wr' : World} {cn cf ce co : Array Value}
theorem St4.later (h : St4 w cn cf ce co wr) (hb : Below wr.heap.size wr wr') : St4 w cn cf ce co wr' :=
 ⟨h.b0.below hb h.b0.lt, h.b1.below hb h.b1.lt, h.b2.below hb h.b2.lt, h.b3.below hb h.b3.lt, h.bl.trans (hb.mono h.bl.size)⟩
theorem St4.fld (h : St4 w cn cf ce co wr) (i : Nat) (u : Value) : St4 w cn (cf.setIfInBounds i u) ce co (wr.setCell ⟨w.heap.size + 1, i, none⟩ u) :=
 ⟨h.b0.far (by simp) _, h.b1.set i _, h.b2.far (by simp) _, h.b3.far (by simp) _, h.bl.setCell (by simp) _⟩
theorem St4.out {x y z : Value} (h : St4 w cn cf ce #[x, y, z] wr) (u v t : Value) : St4 w cn cf ce #[u, v, t] (((wr.setCell ⟨w.heap.size + 3, 0, none⟩ u).setCell ⟨w.heap.size + 3, 1, none⟩ v).setCell ⟨w.heap.size + 3, 2, none⟩ t) :=
 ⟨((h.b0.far (by simp) _).far (by simp) _).far (by simp) _, ((h.b1.far (by simp) _).far (by simp) _).far (by simp) _, ((h.b2.far (by simp) _).far (by simp) _).far (by simp) _, ((h.b3.set 0 _).set 1 _).set 2 _, ((h.bl.setCell (by simp) _).setCell (by simp) _).setCell (by simp) _⟩
theorem St4.oc {x y z : Value} (h : St4 w cn cf ce #[x, y, z] wr) : wr.cell? ⟨w.heap.size + 3, 0, none⟩ = some x ∧ wr.cell? ⟨w.heap.size + 3, 1, none⟩ = some y ∧ wr.cell? ⟨w.heap.size + 3, 2, none⟩ = some z := ⟨h.b3.cell 0, h.b3.cell 1, h.b3.cell 2⟩
theorem St4.oz (h : St4 w cn cf ce co wr) : wr.frozen? ⟨w.heap.size + 3, 0, none⟩ = false ∧ wr.frozen? ⟨w.heap.size + 3, 1, none⟩ = false ∧ wr.frozen? ⟨w.heap.size + 3, 2, none⟩ = false := ⟨h.b3.frozen 0, h.b3.frozen 1, h.b3.frozen 2⟩
theorem St4.fc {x y z : Value} (h : St4 w cn #[x, y, z] ce co wr) : wr.cell? ⟨w.heap.size + 1, 0, none⟩ = some x ∧ wr.cell? ⟨w.heap.size + 1, 1, none⟩ = some y ∧ wr.cell? ⟨w.heap.size + 1, 2, none⟩ = some z := ⟨h.b1.cell 0, h.b1.cell 1, h.b1.cell 2⟩
theorem St4.ec {x y z t : Value} (h : St4 w cn cf #[x, y, z, t] co wr) : wr.cell? ⟨w.heap.size + 2, 0, none⟩ = some x ∧ wr.cell? ⟨w.heap.size + 2, 1, none⟩ = some y ∧ wr.cell? ⟨w.heap.size + 2, 2, none⟩ = some z ∧ wr.cell? ⟨w.heap.size + 2, 3, none⟩ = some t := ⟨h.b2.cell 0, h.b2.cell 1, h.b2.cell 2, h.b2.cell 3⟩
theorem St4.nc {x y : Value} (h : St4 w #[x, y] cf ce co wr) : wr.cell? ⟨w.heap.size, 0, none⟩ = some x ∧ wr.cell? ⟨w.heap.size, 1, none⟩ = some y := ⟨h.b0.cell 0, h.b0.cell 1⟩
end
def Ap (g : Nat) (A : Option Addr) : Prop := ∀ b off, A = some ⟨b, off, none⟩ → b ≠ g
def RstPost (w : World) (ns : List Nd) (ds : List Dv) (As Al At : Option Addr) (F : Fd) (k d p q : Int) (e : Ending) (w' : World) : Prop :=
 ((stpErr ns ds F k d p q ≠ 0 ∧ e = .returned (.tuple #[.agg #[.slice none 0 0, .slice none 0 0, .slice none 0 0], .int .i64 (stpErr ns ds F k d p q)])) ∨
  stpErr ns ds F k d p q = 0 ∧ ∃ (A1 A2 A3 : Option Addr) (n1 c1 n2 c2 n3 c3 : Nat), e = .returned (.tuple #[.agg #[.slice A1 n1 c1, .slice A2 n2 c2, .slice A3 n3 c3], .int .i64 0]) ∧ Hid (Fd3 w' A1 n1 c1 A2 n2 c2 A3 n3 c3 (evTo ds F k d p q)) ∧ Hid (∀ g, g < w.heap.size → Ap g As → Ap g Al → Ap g At → Ap g A1 ∧ Ap g A2 ∧ Ap g A3)) ∧ Hid (Below w.heap.size w w')
theorem ap_own {w : World} {base size n c g : Nat} {e : TypeId} {A : Option Addr} {xs : List Value} (h : w.ownsRow base e size (.slice A n c) n xs) (hg : g < base) : Ap g A := fun b off e => by have := (h.lt b (by rw [e]; rfl)).1; omega
theorem St4.gr {w wr wr' : World} {cn cf ce co : Array Value} {row : Option Nat} (h : St4 w cn cf ce co wr) (hg : wr.grownBy wr' row) (hr : ∀ g, row = some g → w.heap.size + 4 ≤ g) : St4 w cn cf ce co wr' :=
 have f : ∀ x, x < w.heap.size + 4 → some x ≠ row := fun x hx e => by have := hr x e.symm; omega
 ⟨h.b0.grown hg (f _ (by omega)), h.b1.grown hg (f _ (by omega)), h.b2.grown hg (f _ (by omega)), h.b3.grown hg (f _ (by omega)), h.bl.trans ⟨hg.os, hg.tape, hg.output, hg.size, fun i hi => hg.block i (by have := h.bl.size; omega) (f _ (by omega))⟩⟩
end Go.Proofs.YtepicjpdhpojnaaGreatDoor
