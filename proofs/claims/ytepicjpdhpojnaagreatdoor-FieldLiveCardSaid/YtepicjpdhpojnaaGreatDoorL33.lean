import Derived.Test.YtepicjpdhpojnaaGreatDoorL24
import Derived.Test.YtepicjpdhpojnaaGreatDoorL32
import Derived.Test.YtepicjpdhpojnaaGreatDoorL20
set_option maxRecDepth 100000
set_option maxHeartbeats 16000000
namespace Go.Proofs.YtepicjpdhpojnaaGreatDoor
open Go.RowKit
section
variable {w : World} {base B size n c x m cn : Nat} {e : TypeId} {A : Option Addr} {xs : List Value} {u v t : Value}
theorem Sl.out3 (h : Sl w B size A n c xs) (hB : B ≤ x) : Sl (((w.setCell ⟨x, 0, none⟩ u).setCell ⟨x, 1, none⟩ v).setCell ⟨x, 2, none⟩ t) B size A n c xs := ((h.setCell (p := ⟨x, 0, none⟩) hB u).setCell (p := ⟨x, 1, none⟩) hB v).setCell (p := ⟨x, 2, none⟩) hB t
theorem own_out3 (h : w.ownsRow base e size (.slice A n c) n xs) (hB : x < base) : (((w.setCell ⟨x, 0, none⟩ u).setCell ⟨x, 1, none⟩ v).setCell ⟨x, 2, none⟩ t).ownsRow base e size (.slice A n c) n xs := own_far (own_far (own_far h hB) hB) hB
end
def TurnPost (w : World) (n : Nat) (Al : Option Addr) (nl cl : Nat) (At : Option Addr) (nt ct : Nat) (s : List Int) (e : Ending) (w' : World) : Prop := ∃ (A' : Option Addr) (c' : Nat), e = .returned (.agg #[.slice A' n c', .slice Al nl cl, .slice At nt ct]) ∧ Hid (IntsO w' w.heap.size A' n c' s) ∧ Hid (Below w.heap.size w w')
theorem turn_any (As Al At : Option Addr) (n c nl cl nt ct : Nat) (s : List Int) (p : Int) (d : Nat) (w : World) (hs : Sl w w.heap.size 1 As n c (intsV s)) (hn : n ≤ 1000000) (hd : d < n) :
 Calls Tryz.prog 39 #[.agg #[.slice As n c, .slice Al nl cl, .slice At nt ct], .int .i64 (d : Int), .int .i64 p] w (TurnPost w n Al nl cl At nt ct (s.set d p)) := by
 have HB := Lib.hid (Bc.new w #[.slice As n c, .slice Al nl cl, .slice At nt ct])
 have hle := hs.le
 have HS := Lib.hid (hs.below HB.out.bl (Nat.le_refl _))
 clear hs
 go_enter Tryz.func39, Tryz.ntmps39
 go_upto_region 1 with (fail)
 generalize World.alloc (World.alloc w _) _ = w1 at *
 obtain ⟨b0, b1, b2⟩ := HB.out.cells
 have z0 := HB.out.b0.frozen 0
 go_upto_region 2 with (at_builtin; go_must (refine wpList_app rfl _ (.tmp 8) rfl el_int (by rfl) (World.ownsRow_nil _ w1.heap.size _ _) (by rfl) HS.out (ints_one _) (by omega) (by omega) (by omega) ?_; intro A' c' w2 hown7 hgr7 hat7; simp only [Nat.zero_add, List.nil_append] at hown7 hgr7 ⊢; have HO := Lib.hid hown7; have HG := Lib.hid hgr7; have hB2 : Below w1.heap.size w1 w2 := (below_none hgr7); have HB2 := Lib.hid (HB.out.later hB2); have HBB := Lib.hid hB2; have y0 := HB2.out.b0.cell 0; have zz := HB2.out.b0.frozen 0; clear hown7 hgr7 hat7 hB2))
 clear b0 b1 b2 z0 y0 zz
 have HO2 := Lib.hid (own_far (x := w.heap.size) (i := 0) (u := .slice A' n c') HO.out HB.out.b0.lt)
 have HB3 : Hid (Bc w #[.slice A' n c', .slice Al nl cl, .slice At nt ct] (w2.setCell ⟨w.heap.size, 0, none⟩ (.slice A' n c'))) := ⟨HB2.out.b0.set 0 _, HB2.out.b1.far (by simp) _, HB2.out.bl.setCell (by simp) _⟩
 generalize World.setCell w2 _ _ = w3 at *
 have HO3 : Hid (IntsO w3 w1.heap.size A' n c' s) := HO2.out
 clear HO2 HO HG HB2
 obtain ⟨tg, y, rfl, htg, htl, hy, hcy, hfy, hst⟩ := HO3.out.at hd
 obtain ⟨b0, b1, b2⟩ := HB3.out.cells
 have hsz : w.heap.size + 1 < w1.heap.size := HB.out.b1.lt
 have HO4 := Lib.hid (hst p)
 have HB4 : Hid (Bc w #[.slice (some ⟨tg, 0, none⟩) n c', .slice Al nl cl, .slice At nt ct] (w3.setCell ⟨tg, d, none⟩ (.int .i64 p))) := ⟨HB3.out.b0.far (by simp; omega) _, HB3.out.b1.far (by simp; omega) _, HB3.out.bl.setCell (by simp; omega) _⟩
 clear hst hy HO3
 go_upto_region 3 with (fail)
 clear b0 b1 b2 hcy hfy
 generalize World.setCell w3 _ _ = w4 at *
 obtain ⟨b0, b1, b2⟩ := HB4.out.cells
 have d0 : w4.cell? ⟨w.heap.size + 1, 0, none⟩ = some (.slice none 0 0) := HB4.out.b1.cell 0
 have d1 : w4.cell? ⟨w.heap.size + 1, 1, none⟩ = some (.slice none 0 0) := HB4.out.b1.cell 1
 have d2 : w4.cell? ⟨w.heap.size + 1, 2, none⟩ = some (.slice none 0 0) := HB4.out.b1.cell 2
 have y0 := HB4.out.b1.frozen 0; have y1 := HB4.out.b1.frozen 1; have y2 := HB4.out.b1.frozen 2
 go_wp2_with fail
 clear b0 b1 b2 d0 d1 d2 y0 y1 y2
 have HX : Hid (TurnPost w n Al nl cl At nt ct (s.set d p) (.returned (.agg #[.slice (some ⟨tg, 0, none⟩) n c', .slice Al nl cl, .slice At nt ct])) (((w4.setCell ⟨w.heap.size + 1, 0, none⟩ (.slice (some ⟨tg, 0, none⟩) n c')).setCell ⟨w.heap.size + 1, 1, none⟩ (.slice Al nl cl)).setCell ⟨w.heap.size + 1, 2, none⟩ (.slice At nt ct))) :=
  ⟨some ⟨tg, 0, none⟩, c', rfl, (own_out3 (x := w.heap.size + 1) HO4.out hsz).mono (by omega), ((HB4.out.bl.setCell (by simp) _).setCell (by simp) _).setCell (by simp) _⟩
 have HD : Hid (Blk (((w4.setCell ⟨w.heap.size + 1, 0, none⟩ (.slice (some ⟨tg, 0, none⟩) n c')).setCell ⟨w.heap.size + 1, 1, none⟩ (.slice Al nl cl)).setCell ⟨w.heap.size + 1, 2, none⟩ (.slice At nt ct)) (w.heap.size + 1) 35 #[.slice (some ⟨tg, 0, none⟩) n c', .slice Al nl cl, .slice At nt ct]) := ((HB4.out.b1.set 0 _).set 1 _).set 2 _
 generalize World.setCell (World.setCell (World.setCell w4 _ _) _ _) _ _ = x at *
 have d0 : x.cell? ⟨w.heap.size + 1, 0, none⟩ = some (.slice (some ⟨tg, 0, none⟩) n c') := HD.out.cell 0
 have d1 : x.cell? ⟨w.heap.size + 1, 1, none⟩ = some (.slice Al nl cl) := HD.out.cell 1
 have d2 : x.cell? ⟨w.heap.size + 1, 2, none⟩ = some (.slice At nt ct) := HD.out.cell 2
 exact bodyPost_ret (v := .agg #[.slice (some ⟨tg, 0, none⟩) n c', .slice Al nl cl, .slice At nt ct]) (by simp [results, Tryz.results39, go_sem, d0, d1, d2]) rfl HX.out
structure St4 (w : World) (cn cf ce co : Array Value) (wr : World) : Prop where
 b0 : Blk wr w.heap.size 30 cn
 b1 : Blk wr (w.heap.size + 1) 35 cf
 b2 : Blk wr (w.heap.size + 2) 44 ce
 b3 : Blk wr (w.heap.size + 3) 35 co
 bl : Below w.heap.size w wr
theorem St4.new (w : World) (cn cf ce co : Array Value) : St4 w cn cf ce co ((((w.alloc (.cells cn 30)).alloc (.cells cf 35)).alloc (.cells ce 44)).alloc (.cells co 35)) := by
 have g1 := Blk.new (w.alloc (.cells cn 30)) 35 cf
 have g2 := Blk.new ((w.alloc (.cells cn 30)).alloc (.cells cf 35)) 44 ce
 have g3 := Blk.new (((w.alloc (.cells cn 30)).alloc (.cells cf 35)).alloc (.cells ce 44)) 35 co
 simp only [World.size_alloc] at g1 g2 g3
 exact ⟨(((Blk.new w _ _).alloc _).alloc _).alloc _, (g1.alloc _).alloc _, g2.alloc _, g3, ((((Below.refl _ _).alloc (Nat.le_refl _) _).alloc (by simp) _).alloc (by simp; omega) _).alloc (by simp; omega) _⟩
section
variable {w wr wr' : World} {cn cf ce co : Array Value}
theorem St4.later (h : St4 w cn cf ce co wr) (hb : Below wr.heap.size wr wr') : St4 w cn cf ce co wr' :=
 ⟨h.b0.below hb h.b0.lt, h.b1.below hb h.b1.lt, h.b2.below hb h.b2.lt, h.b3.below hb h.b3.lt, h.bl.trans (hb.mono h.bl.size)⟩
theorem St4.fld (h : St4 w cn cf ce co wr) (i : Nat) (u : Value) : St4 w cn (cf.setIfInBounds i u) ce co (wr.setCell ⟨w.heap.size + 1, i, none⟩ u) :=
 ⟨h.b0.far (by simp) _, h.b1.set i _, h.b2.far (by simp) _, h.b3.far (by simp) _, h.bl.setCell (by simp) _⟩
theorem St4.out {x y z : Value} (h : St4 w cn cf ce #[x, y, z] wr) (u v t : Value) : St4 w cn cf ce #[u, v, t] (((wr.setCell ⟨w.heap.size + 3, 0, none⟩ u).setCell ⟨w.heap.size + 3, 1, none⟩ v).setCell ⟨w.heap.size + 3, 2, none⟩ t) :=
 ⟨((h.b0.far (by simp) _).far (by simp) _).far (by simp) _, ((h.b1.far (by simp) _).far (by simp) _).far (by simp) _, ((h.b2.far (by simp) _).far (by simp) _).far (by simp) _, ((h.b3.set 0 _).set 1 _).set 2 _, ((h.bl.setCell (by simp) _).setCell (by simp) _).setCell (by simp) _⟩
theorem St4.oc {x y z : Value} (h : St4 w cn cf ce #[x, y, z] wr) : wr.cell? ⟨w.heap.size + 3, 0, none⟩ = some x ∧ wr.cell? ⟨w.heap.size + 3, 1, none⟩ = some y ∧ wr.cell? ⟨w.heap.size + 3, 2, none⟩ = some z := ⟨h.b3.cell 0, h.b3.cell 1, h.b3.cell 2⟩
theorem St4.oz (h : St4 w cn cf ce co wr) : wr.frozen? ⟨w.heap.size + 3, 0, none⟩ = false ∧ wr.frozen? ⟨w.heap.size + 3, 1, none⟩ = false ∧ wr.frozen? ⟨w.heap.size + 3, 2, none⟩ = false := ⟨h.b3.frozen 0, h.b3.frozen 1, h.b3.frozen 2⟩
theorem St4.fc {x y z : Value} (h : St4 w cn #[x, y, z] ce co wr) : wr.cell? ⟨w.heap.size + 1, 0, none⟩ = some x ∧ wr.cell? ⟨w.heap.size + 1, 1, none⟩ = some y ∧ wr.cell? ⟨w.heap.size + 1, 2, none⟩ = some z := ⟨h.b1.cell 0, h.b1.cell 1, h.b1.cell 2⟩
theorem St4.ec {x y z t : Value} (h : St4 w cn cf #[x, y, z, t] co wr) : wr.cell? ⟨w.heap.size + 2, 0, none⟩ = some x ∧ wr.cell? ⟨w.heap.size + 2, 1, none⟩ = some y ∧ wr.cell? ⟨w.heap.size + 2, 2, none⟩ = some z ∧ wr.cell? ⟨w.heap.size + 2, 3, none⟩ = some t := ⟨h.b2.cell 0, h.b2.cell 1, h.b2.cell 2, h.b2.cell 3⟩
theorem St4.nc {x y : Value} (h : St4 w #[x, y] cf ce co wr) : wr.cell? ⟨w.heap.size, 0, none⟩ = some x ∧ wr.cell? ⟨w.heap.size, 1, none⟩ = some y := ⟨h.b0.cell 0, h.b0.cell 1⟩
end
def Ap (g : Nat) (A : Option Addr) : Prop := ∀ b off, A = some ⟨b, off, none⟩ → b ≠ g
def RstPost (w : World) (ns : List Nd) (ds : List Dv) (As Al At : Option Addr) (F : Fd) (k d p q : Int) (e : Ending) (w' : World) : Prop :=
 ((stpErr ns ds F k d p q ≠ 0 ∧ e = .returned (.tuple #[.agg #[.slice none 0 0, .slice none 0 0, .slice none 0 0], .int .i64 (stpErr ns ds F k d p q)])) ∨
  stpErr ns ds F k d p q = 0 ∧ ∃ (A1 A2 A3 : Option Addr) (n1 c1 n2 c2 n3 c3 : Nat), e = .returned (.tuple #[.agg #[.slice A1 n1 c1, .slice A2 n2 c2, .slice A3 n3 c3], .int .i64 0]) ∧ Hid (Fd3 w' A1 n1 c1 A2 n2 c2 A3 n3 c3 (evTo ds F k d p q)) ∧ Hid (∀ g, g < w.heap.size → Ap g As → Ap g Al → Ap g At → Ap g A1 ∧ Ap g A2 ∧ Ap g A3)) ∧ Hid (Below w.heap.size w w')
theorem ap_own {w : World} {base size n c g : Nat} {e : TypeId} {A : Option Addr} {xs : List Value} (h : w.ownsRow base e size (.slice A n c) n xs) (hg : g < base) : Ap g A := fun b off e => by have := (h.lt b (by rw [e]; rfl)).1; omega
theorem rng_keep {st : List Int} {d i : Nat} {b : Bool} : stkTo (i + 1) st d b = stkTo i st d b ++ (if (if (i : Int) = d then b else decide ((i : Int) ∈ st)) = true then [(i : Int)] else []) := by
 unfold stkTo
 rw [rngI_succ, List.filter_append]
 congr 1
 rw [List.filter_cons, List.filter_nil]
theorem St4.gr {w wr wr' : World} {cn cf ce co : Array Value} {row : Option Nat} (h : St4 w cn cf ce co wr) (hg : wr.grownBy wr' row) (hr : ∀ g, row = some g → w.heap.size + 4 ≤ g) : St4 w cn cf ce co wr' :=
 have f : ∀ x, x < w.heap.size + 4 → some x ≠ row := fun x hx e => by have := hr x e.symm; omega
 ⟨h.b0.grown hg (f _ (by omega)), h.b1.grown hg (f _ (by omega)), h.b2.grown hg (f _ (by omega)), h.b3.grown hg (f _ (by omega)), h.bl.trans ⟨hg.os, hg.tape, hg.output, hg.size, fun i hi => hg.block i (by have := h.bl.size; omega) (f _ (by omega))⟩⟩
def RsR (w : World) (cn cf ce co : Array Value) (st : List Int) (d : Int) (b : Bool) (n gk : Nat) (lv iv : Value) (wr : World) : Prop := ∃ (i m cc : Nat) (A : Option Addr), lv = .slice A m cc ∧ iv = .int .i64 i ∧ i ≤ n ∧ gk = n - i ∧ Hid (IntsO wr (w.heap.size + 4) A m cc (stkTo i st d b)) ∧ Hid (St4 w cn cf ce co wr)
theorem rstep_any (An Ad As Al At : Option Addr) (nn cn nd cd n c nl cl nt ct : Nat) (ns : List Nd) (ds : List Dv) (F : Fd) (k d p q : Int) (w : World) (h : FdM w An Ad As Al At nn cn nd cd n c nl cl nt ct ns ds F) :
 Calls Tryz.prog 13 #[.agg #[.slice An nn cn, .slice Ad nd cd], .agg #[.slice As n c, .slice Al nl cl, .slice At nt ct], .agg #[.int .i64 k, .int .i64 d, .int .i64 p, .int .i64 q]] w (RstPost w ns ds As Al At F k d p q) := by
 obtain ⟨-, hl2, hl3, hl4, hl5⟩ := h.ln
 have HL2 := Lib.hid hl2; have HL3 := Lib.hid hl3; have HL5 := Lib.hid hl5
 subst hl4
 have hdm := h.hd.le
 have HB := Lib.hid (St4.new w #[.slice An nn cn, .slice Ad nd cd] #[.slice As n c, .slice Al F.ls.length cl, .slice At nt ct] #[.int .i64 k, .int .i64 d, .int .i64 p, .int .i64 q] #[.slice none 0 0, .slice none 0 0, .slice none 0 0])
 have HH := Lib.hid h
 clear h hl2 hl3 hl5
 go_enter Tryz.func13, Tryz.ntmps13
 go_upto_region 1 with (fail)
 rw [show w.heap.size + 1 + 1 + 1 = w.heap.size + 3 from rfl, show w.heap.size + 1 + 1 = w.heap.size + 2 from rfl]
 generalize World.alloc (World.alloc (World.alloc (World.alloc w _) _) _) _ = w1 at *
 have HM1 := Lib.hid (HH.out.later HB.out.bl)
 obtain ⟨k0, k1⟩ := HB.out.nc
 obtain ⟨f0, f1, f2⟩ := HB.out.fc
 go_wp2_with fail
 clear k0 k1 f0 f1 f2
 refine (rfcheck_any An Ad As Al At nn cn nd cd n c F.ls.length cl nt ct ns ds F w1 HM1.out).mono ?_
 rintro e w2 ⟨rfl, hb2⟩
 obtain ⟨E, hE⟩ : ∃ E, E = fdErr ns ds F := ⟨_, rfl⟩
 rw [← hE]
 have HE := Lib.hid hE
 have HS2 := Lib.hid (HB.out.later hb2)
 clear hE hb2 HB HM1
 by_cases h0 : E = 0; rotate_left
 ·have q0 : (E != 0) = true := by simpa using h0
  have HR : Hid (stpErr ns ds F k d p q = E) := by unfold Hid stpErr; rw [← HE.out, if_pos h0]
  have HNZ := Lib.hid h0
  clear h0
  obtain ⟨d0, d1, d2⟩ := HS2.out.oc
  obtain ⟨y0, y1, y2⟩ := HS2.out.oz
  have HSY := Lib.hid (HS2.out.out (.slice none 0 0) (.slice none 0 0) (.slice none 0 0))
  go_wp2_with fail
  clear d0 d1 d2 y0 y1 y2
  generalize World.setCell (World.setCell (World.setCell w2 _ _) _ _) _ _ = wz at *
  obtain ⟨t0, t1, t2⟩ := HSY.out.oc
  exact bodyPost_ret (v := .tuple #[.agg #[.slice none 0 0, .slice none 0 0, .slice none 0 0], .int .i64 E]) (by simp [results, Tryz.results13, go_sem, t0, t1, t2]) rfl ⟨.inl ⟨by rw [HR.out]; exact HNZ.out, by rw [HR.out]⟩, HSY.out.bl⟩
 subst h0
 obtain ⟨e0, e1, e2, e3⟩ := HS2.out.ec
 obtain ⟨k0, k1⟩ := HS2.out.nc
 by_cases hd0 : d < 0
 ·have q0 : decide (d < 0) = true := by simpa using hd0
  have HR : Hid (stpErr ns ds F k d p q = 8) := by unfold Hid stpErr; rw [if_neg (by rw [← HE.out]; simp), if_pos (.inl hd0)]
  clear hd0
  obtain ⟨d0, d1, d2⟩ := HS2.out.oc
  obtain ⟨y0, y1, y2⟩ := HS2.out.oz
  have HSY := Lib.hid (HS2.out.out (.slice none 0 0) (.slice none 0 0) (.slice none 0 0))
  go_wp2_with fail
  clear d0 d1 d2 y0 y1 y2
  generalize World.setCell (World.setCell (World.setCell w2 _ _) _ _) _ _ = wz at *
  obtain ⟨t0, t1, t2⟩ := HSY.out.oc
  exact bodyPost_ret (v := .tuple #[.agg #[.slice none 0 0, .slice none 0 0, .slice none 0 0], .int .i64 8]) (by simp [results, Tryz.results13, go_sem, t0, t1, t2]) rfl ⟨.inl ⟨by rw [HR.out]; decide, by rw [HR.out]⟩, HSY.out.bl⟩
 have q0 : decide (d < 0) = false := by simpa using hd0
 by_cases hd1 : (nd : Int) ≤ d
 ·have q1 : decide ((nd : Int) ≤ d) = true := by simpa using hd1
  have HR : Hid (stpErr ns ds F k d p q = 8) := by unfold Hid stpErr; rw [if_neg (by rw [← HE.out]; simp), if_pos (.inr (by rw [HL2.out]; exact hd1))]
  clear hd0 hd1
  obtain ⟨d0, d1, d2⟩ := HS2.out.oc
  obtain ⟨y0, y1, y2⟩ := HS2.out.oz
  have HSY := Lib.hid (HS2.out.out (.slice none 0 0) (.slice none 0 0) (.slice none 0 0))
  go_wp2_with fail
  clear d0 d1 d2 y0 y1 y2
  generalize World.setCell (World.setCell (World.setCell w2 _ _) _ _) _ _ = wz at *
  obtain ⟨t0, t1, t2⟩ := HSY.out.oc
  exact bodyPost_ret (v := .tuple #[.agg #[.slice none 0 0, .slice none 0 0, .slice none 0 0], .int .i64 8]) (by simp [results, Tryz.results13, go_sem, t0, t1, t2]) rfl ⟨.inl ⟨by rw [HR.out]; decide, by rw [HR.out]⟩, HSY.out.bl⟩
 have q1 : decide ((nd : Int) ≤ d) = false := by simpa using hd1
 obtain ⟨d, rfl⟩ := Int.eq_ofNat_of_zero_le (show 0 ≤ d by omega)
 have hnd : d < nd := by omega
 have hdn : d < ds.length := by rw [HL2.out]; omega
 have q1n : decide (nd ≤ d) = false := by simp; omega
 have HRU : Hid (stpErr ns ds F k d p q = if unuB k p q = true then 14 else evErr ns ds F k d p q) := by unfold Hid stpErr; rw [if_neg (by rw [← HE.out]; simp), if_neg (by omega)]
 obtain ⟨hzE, hzL, -, hzS⟩ := fdErr_zero HE.out.symm
 obtain ⟨hs1, hs2, hs3, hs4⟩ := fd_small HE.out.symm
 have hdS : Hid (d < n) := by have := (stateErr_len hzE).2.1; have := HL3.out; unfold Hid; omega
 have HLE := Lib.hid hzL; have HSS := Lib.hid hzS
 obtain ⟨bd, off, x, hAd, hbd, hx, hc⟩ := HH.out.hd.at (k := d) (fun _ => rfl) (by decide) hnd
 subst hAd
 obtain ⟨nm, kd, xa, xb, xc⟩ := x
 have HKD : Hid (kindOf ds (d : Int) = kd) := kindOf_at hx
 have HKC : Hid (∀ W, Below w.heap.size w W → W.cell? ⟨bd, off + d * 5 + 1, none⟩ = some (.int .i64 kd)) := fun W hb => (hb.cell (p := ⟨bd, off + d * 5 + 1, none⟩) hbd).trans (hc 1 _ rfl)
 obtain ⟨lk, hlk⟩ : ∃ x, x = (lckL F.ls (d : Int)).isSome := ⟨_, rfl⟩
 obtain ⟨sk, hsk⟩ : ∃ x, x = decide ((d : Int) ∈ F.st) := ⟨_, rfl⟩
 have HLK := Lib.hid hlk; have HSK := Lib.hid hsk
 clear hd0 hd1 hzE hzL hzS hc hx hlk hsk
 go_upto_region 6 with (fail)
 by_cases h1 : k = 1
 ·subst h1
  by_cases hq : q = 0; rotate_left
  ·have qq : (q != 0) = true := by simpa using hq
   have HR : Hid (stpErr ns ds F 1 d p q = 14) := by unfold Hid; rw [HRU.out, if_pos (by unfold unuB; rw [if_neg (by decide), if_neg (by decide), if_neg (by decide)]; simpa using hq)]
   obtain ⟨d0, d1, d2⟩ := HS2.out.oc
   obtain ⟨y0, y1, y2⟩ := HS2.out.oz
   have HSY := Lib.hid (HS2.out.out (.slice none 0 0) (.slice none 0 0) (.slice none 0 0))
   go_wp2_with fail
   clear d0 d1 d2 y0 y1 y2
   generalize World.setCell (World.setCell (World.setCell w2 _ _) _ _) _ _ = wz at *
   obtain ⟨t0, t1, t2⟩ := HSY.out.oc
   exact bodyPost_ret (v := .tuple #[.agg #[.slice none 0 0, .slice none 0 0, .slice none 0 0], .int .i64 14]) (by simp [results, Tryz.results13, go_sem, t0, t1, t2]) rfl ⟨.inl ⟨by rw [HR.out]; decide, by rw [HR.out]⟩, HSY.out.bl⟩
  have qq : (q != 0) = false := by simpa using hq
  have HRV : Hid (stpErr ns ds F 1 d p q = evErr ns ds F 1 d p q) := by unfold Hid; rw [HRU.out, if_neg (by unfold unuB; rw [if_neg (by decide), if_neg (by decide), if_neg (by decide)]; simpa using hq)]
  clear HRU
  have c1 := HKC.out w2 HS2.out.bl
  obtain ⟨f0, f1, f2⟩ := HS2.out.fc
  go_wp2_with fail
  clear c1 f0 f1 f2 e0 e1 e2 e3 k0 k1
  refine (rlocked_any Al F.ls.length cl w.heap.size F.ls d w2 (HH.out.hl.below HS2.out.bl (Nat.le_refl _)) HS2.out.bl.size).mono ?_
  rintro e w3 ⟨rfl, hb3⟩
  have HS3 := Lib.hid (HS2.out.later hb3)
  clear hb3 HS2
  unfold lckE
  rw [← HLK.out]
  obtain ⟨f0, f1, f2⟩ := HS3.out.fc
  obtain ⟨e0, e1, e2, e3⟩ := HS3.out.ec
  obtain ⟨k0, k1⟩ := HS3.out.nc
  go_wp2_with fail
  refine (rhas_any At nt ct F.st d w3 ((HH.out.ht.below HS3.out.bl (Nat.le_refl _)).more HS3.out.bl.size)).mono ?_
  rintro e w4 ⟨rfl, rfl⟩
  rw [← HSK.out]
  by_cases h5 : kd = 5
  ·have qk : (kd == 5) = true := by simpa using h5
   have HR : Hid (stpErr ns ds F 1 d p q = 6) := by unfold Hid; rw [HRV.out]; unfold evErr; rw [if_pos rfl]; rw [HKD.out, if_pos h5]
   obtain ⟨d0, d1, d2⟩ := HS3.out.oc
   obtain ⟨y0, y1, y2⟩ := HS3.out.oz
   have HSY := Lib.hid (HS3.out.out (.slice none 0 0) (.slice none 0 0) (.slice none 0 0))
   go_wp2_with fail
   clear d0 d1 d2 y0 y1 y2
   generalize World.setCell (World.setCell (World.setCell w3 _ _) _ _) _ _ = wz at *
   obtain ⟨t0, t1, t2⟩ := HSY.out.oc
   exact bodyPost_ret (v := .tuple #[.agg #[.slice none 0 0, .slice none 0 0, .slice none 0 0], .int .i64 6]) (by simp [results, Tryz.results13, go_sem, t0, t1, t2]) rfl ⟨.inl ⟨by rw [HR.out]; decide, by rw [HR.out]⟩, HSY.out.bl⟩
  have qk : (kd == 5) = false := by simpa using h5
  rcases hpp : posB p with _ | _
  ·have HR : Hid (stpErr ns ds F 1 d p q = 10) := by unfold Hid; rw [HRV.out]; unfold evErr; rw [if_pos rfl]; rw [HKD.out, if_neg h5, if_pos hpp]
   go_wp2_with fail
   refine (rfpos_any p w3).mono ?_
   rintro e w5 ⟨rfl, rfl⟩
   rw [hpp]
   obtain ⟨d0, d1, d2⟩ := HS3.out.oc
   obtain ⟨y0, y1, y2⟩ := HS3.out.oz
   have HSY := Lib.hid (HS3.out.out (.slice none 0 0) (.slice none 0 0) (.slice none 0 0))
   go_wp2_with fail
   clear d0 d1 d2 y0 y1 y2
   generalize World.setCell (World.setCell (World.setCell w3 _ _) _ _) _ _ = wz at *
   obtain ⟨t0, t1, t2⟩ := HSY.out.oc
   exact bodyPost_ret (v := .tuple #[.agg #[.slice none 0 0, .slice none 0 0, .slice none 0 0], .int .i64 10]) (by simp [results, Tryz.results13, go_sem, t0, t1, t2]) rfl ⟨.inl ⟨by rw [HR.out]; decide, by rw [HR.out]⟩, HSY.out.bl⟩
  go_wp2_with fail
  refine (rfpos_any p w3).mono ?_
  rintro e w5 ⟨rfl, rfl⟩
  rw [hpp]
  rcases hlk2 : lk with _ | _; rotate_left
  ·have HR : Hid (stpErr ns ds F 1 d p q = 18) := by unfold Hid; rw [HRV.out]; unfold evErr; rw [if_pos rfl]; rw [HKD.out, if_neg h5, if_neg (by simp [hpp]), ← HLK.out, if_pos hlk2]
   clear HLK hlk2
   obtain ⟨d0, d1, d2⟩ := HS3.out.oc
   obtain ⟨y0, y1, y2⟩ := HS3.out.oz
   have HSY := Lib.hid (HS3.out.out (.slice none 0 0) (.slice none 0 0) (.slice none 0 0))
   go_wp2_with fail
   clear d0 d1 d2 y0 y1 y2
   generalize World.setCell (World.setCell (World.setCell w3 _ _) _ _) _ _ = wz at *
   obtain ⟨t0, t1, t2⟩ := HSY.out.oc
   exact bodyPost_ret (v := .tuple #[.agg #[.slice none 0 0, .slice none 0 0, .slice none 0 0], .int .i64 18]) (by simp [results, Tryz.results13, go_sem, t0, t1, t2]) rfl ⟨.inl ⟨by rw [HR.out]; decide, by rw [HR.out]⟩, HSY.out.bl⟩
  rcases hsk2 : sk with _ | _
  ·have HTO : Hid (evTo ds F 1 d p q = ⟨F.s.set d (p), F.ls, F.st⟩) := by unfold Hid; rw [to1, ← HLK.out, ← HSK.out, hlk2, hsk2]; rfl
   have HR : Hid (stpErr ns ds F 1 d p q = 0) := by unfold Hid; rw [HRV.out]; unfold evErr; rw [if_pos rfl]; rw [HKD.out, if_neg h5, if_neg (by simp [hpp]), ← HLK.out, hlk2, if_neg (by simp)]
   clear HLK HSK hlk2 hsk2
   have HFS := Lib.hid ((HH.out.hs.below HS3.out.bl (Nat.le_refl _)).more HS3.out.bl.size)
   go_wp2_with fail
   clear f0 f1 f2 e0 e1 e2 e3
   refine (turn_any As Al At n c F.ls.length cl nt ct F.s p d w3 HFS.out (by have := HL3.out; omega) hdS.out).mono ?_
   rintro e wt ⟨A', c', rfl, hO, hbt⟩
   have HST := Lib.hid (HS3.out.later hbt.out)
   have HOT := Lib.hid (hO.out.mono HS3.out.b3.lt)
   clear hO hbt
   obtain ⟨d0, d1, d2⟩ := HST.out.oc
   obtain ⟨y0, y1, y2⟩ := HST.out.oz
   have HSY := Lib.hid (HST.out.out (.slice A' n c') (.slice Al F.ls.length cl) (.slice At nt ct))
   have HAO := Lib.hid HOT.out
   have HFZ : Hid (Fd3 (((wt.setCell ⟨w.heap.size + 3, 0, none⟩ (.slice A' n c')).setCell ⟨w.heap.size + 3, 1, none⟩ (.slice Al F.ls.length cl)).setCell ⟨w.heap.size + 3, 2, none⟩ (.slice At nt ct)) A' n c' Al F.ls.length cl At nt ct ⟨F.s.set d p, F.ls, F.st⟩) := ⟨(Sl.of_own (own_out3 (x := w.heap.size + 3) HOT.out (Nat.lt_succ_self _))), (Sl.out3 (x := w.heap.size + 3) (HH.out.hl.below HST.out.bl (Nat.le_refl _)) (by omega)).more (by have := HST.out.bl.size; simp; omega), (Sl.out3 (x := w.heap.size + 3) (HH.out.ht.below HST.out.bl (Nat.le_refl _)) (by omega)).more (by have := HST.out.bl.size; simp; omega)⟩
   go_wp2_with fail
   clear d0 d1 d2 y0 y1 y2
   generalize World.setCell (World.setCell (World.setCell wt _ _) _ _) _ _ = wz at *
   obtain ⟨t0, t1, t2⟩ := HSY.out.oc
   exact bodyPost_ret (v := .tuple #[.agg #[.slice A' n c', .slice Al F.ls.length cl, .slice At nt ct], .int .i64 0]) (by simp [results, Tryz.results13, go_sem, t0, t1, t2]) rfl ⟨.inr ⟨HR.out, _, _, _, _, _, _, _, _, _, rfl, by unfold Hid; rw [HTO.out]; exact HFZ.out, fun g hg _ h2 h3 => ⟨ap_own HAO.out (by omega), h2, h3⟩⟩, HSY.out.bl⟩
  ·have HTO : Hid (evTo ds F 1 d p q = F) := by unfold Hid; rw [to1, ← HLK.out, ← HSK.out, hlk2, hsk2]; rfl
   have HR : Hid (stpErr ns ds F 1 d p q = 0) := by unfold Hid; rw [HRV.out]; unfold evErr; rw [if_pos rfl]; rw [HKD.out, if_neg h5, if_neg (by simp [hpp]), ← HLK.out, hlk2, if_neg (by simp)]
   clear HLK HSK hlk2 hsk2
   obtain ⟨d0, d1, d2⟩ := HS3.out.oc
   obtain ⟨y0, y1, y2⟩ := HS3.out.oz
   have HSY := Lib.hid (HS3.out.out (.slice As n c) (.slice Al F.ls.length cl) (.slice At nt ct))
   have HFZ : Hid (Fd3 (((w3.setCell ⟨w.heap.size + 3, 0, none⟩ (.slice As n c)).setCell ⟨w.heap.size + 3, 1, none⟩ (.slice Al F.ls.length cl)).setCell ⟨w.heap.size + 3, 2, none⟩ (.slice At nt ct)) As n c Al F.ls.length cl At nt ct F) := ⟨(Sl.out3 (x := w.heap.size + 3) (HH.out.hs.below HS3.out.bl (Nat.le_refl _)) (by omega)).more (by have := HS3.out.bl.size; simp; omega), (Sl.out3 (x := w.heap.size + 3) (HH.out.hl.below HS3.out.bl (Nat.le_refl _)) (by omega)).more (by have := HS3.out.bl.size; simp; omega), (Sl.out3 (x := w.heap.size + 3) (HH.out.ht.below HS3.out.bl (Nat.le_refl _)) (by omega)).more (by have := HS3.out.bl.size; simp; omega)⟩
   go_wp2_with fail
   clear d0 d1 d2 y0 y1 y2
   generalize World.setCell (World.setCell (World.setCell w3 _ _) _ _) _ _ = wz at *
   obtain ⟨t0, t1, t2⟩ := HSY.out.oc
   exact bodyPost_ret (v := .tuple #[.agg #[.slice As n c, .slice Al F.ls.length cl, .slice At nt ct], .int .i64 0]) (by simp [results, Tryz.results13, go_sem, t0, t1, t2]) rfl ⟨.inr ⟨HR.out, _, _, _, _, _, _, _, _, _, rfl, by unfold Hid; rw [HTO.out]; exact HFZ.out, fun _ _ h1 h2 h3 => ⟨h1, h2, h3⟩⟩, HSY.out.bl⟩
 have qk1 : (k == 1) = false := by simpa using h1
 by_cases h2 : k = 2
 ·subst h2
  by_cases hp : p = 0; rotate_left
  ·have qp : (p != 0) = true := by simpa using hp
   have HR : Hid (stpErr ns ds F 2 d p q = 14) := by unfold Hid; rw [HRU.out, if_pos (by unfold unuB; rw [if_neg (by decide), if_neg (by decide), if_pos (by decide)]; simp [hp])]
   obtain ⟨d0, d1, d2⟩ := HS2.out.oc
   obtain ⟨y0, y1, y2⟩ := HS2.out.oz
   have HSY := Lib.hid (HS2.out.out (.slice none 0 0) (.slice none 0 0) (.slice none 0 0))
   go_wp2_with fail
   clear d0 d1 d2 y0 y1 y2
   generalize World.setCell (World.setCell (World.setCell w2 _ _) _ _) _ _ = wz at *
   obtain ⟨t0, t1, t2⟩ := HSY.out.oc
   exact bodyPost_ret (v := .tuple #[.agg #[.slice none 0 0, .slice none 0 0, .slice none 0 0], .int .i64 14]) (by simp [results, Tryz.results13, go_sem, t0, t1, t2]) rfl ⟨.inl ⟨by rw [HR.out]; decide, by rw [HR.out]⟩, HSY.out.bl⟩
  have qp : (p != 0) = false := by simpa using hp
  by_cases hq : q = 0; rotate_left
  ·have qq : (q != 0) = true := by simpa using hq
   have HR : Hid (stpErr ns ds F 2 d p q = 14) := by unfold Hid; rw [HRU.out, if_pos (by unfold unuB; rw [if_neg (by decide), if_neg (by decide), if_pos (by decide)]; simp [hq])]
   obtain ⟨d0, d1, d2⟩ := HS2.out.oc
   obtain ⟨y0, y1, y2⟩ := HS2.out.oz
   have HSY := Lib.hid (HS2.out.out (.slice none 0 0) (.slice none 0 0) (.slice none 0 0))
   go_wp2_with fail
   clear d0 d1 d2 y0 y1 y2
   generalize World.setCell (World.setCell (World.setCell w2 _ _) _ _) _ _ = wz at *
   obtain ⟨t0, t1, t2⟩ := HSY.out.oc
   exact bodyPost_ret (v := .tuple #[.agg #[.slice none 0 0, .slice none 0 0, .slice none 0 0], .int .i64 14]) (by simp [results, Tryz.results13, go_sem, t0, t1, t2]) rfl ⟨.inl ⟨by rw [HR.out]; decide, by rw [HR.out]⟩, HSY.out.bl⟩
  have qq : (q != 0) = false := by simpa using hq
  have HRV : Hid (stpErr ns ds F 2 d p q = evErr ns ds F 2 d p q) := by unfold Hid; rw [HRU.out, if_neg (by unfold unuB; rw [if_neg (by decide), if_neg (by decide), if_pos (by decide)]; simp [hp, hq])]
  clear HRU
  have c1 := HKC.out w2 HS2.out.bl
  obtain ⟨f0, f1, f2⟩ := HS2.out.fc
  go_wp2_with fail
  clear c1 f0 f1 f2 e0 e1 e2 e3 k0 k1
  refine (rlocked_any Al F.ls.length cl w.heap.size F.ls d w2 (HH.out.hl.below HS2.out.bl (Nat.le_refl _)) HS2.out.bl.size).mono ?_
  rintro e w3 ⟨rfl, hb3⟩
  have HS3 := Lib.hid (HS2.out.later hb3)
  clear hb3 HS2
  unfold lckE
  rw [← HLK.out]
  obtain ⟨f0, f1, f2⟩ := HS3.out.fc
  obtain ⟨e0, e1, e2, e3⟩ := HS3.out.ec
  obtain ⟨k0, k1⟩ := HS3.out.nc
  go_wp2_with fail
  refine (rhas_any At nt ct F.st d w3 ((HH.out.ht.below HS3.out.bl (Nat.le_refl _)).more HS3.out.bl.size)).mono ?_
  rintro e w4 ⟨rfl, rfl⟩
  rw [← HSK.out]
  by_cases h5 : kd = 2; rotate_left
  ·have qk : (kd != 2) = true := by simpa using h5
   have HR : Hid (stpErr ns ds F 2 d p q = 6) := by unfold Hid; rw [HRV.out]; unfold evErr; rw [if_neg (by decide), if_pos rfl]; rw [HKD.out, if_neg h5]
   obtain ⟨d0, d1, d2⟩ := HS3.out.oc
   obtain ⟨y0, y1, y2⟩ := HS3.out.oz
   have HSY := Lib.hid (HS3.out.out (.slice none 0 0) (.slice none 0 0) (.slice none 0 0))
   go_wp2_with fail
   clear d0 d1 d2 y0 y1 y2
   generalize World.setCell (World.setCell (World.setCell w3 _ _) _ _) _ _ = wz at *
   obtain ⟨t0, t1, t2⟩ := HSY.out.oc
   exact bodyPost_ret (v := .tuple #[.agg #[.slice none 0 0, .slice none 0 0, .slice none 0 0], .int .i64 6]) (by simp [results, Tryz.results13, go_sem, t0, t1, t2]) rfl ⟨.inl ⟨by rw [HR.out]; decide, by rw [HR.out]⟩, HSY.out.bl⟩
  have qk : (kd != 2) = false := by simpa using h5
  go_wp2_with fail
  refine (rfpos_any 1 w3).mono ?_
  rintro e w5 ⟨rfl, rfl⟩
  rw [show posB 1 = true from rfl]
  rcases hlk2 : lk with _ | _; rotate_left
  ·have HTO : Hid (evTo ds F 2 d p q = F) := by unfold Hid; rw [to2, ← HLK.out, hlk2]; rfl
   have HR : Hid (stpErr ns ds F 2 d p q = 0) := by unfold Hid; rw [HRV.out]; unfold evErr; rw [if_neg (by decide), if_pos rfl]; rw [HKD.out, if_pos h5]
   clear HLK HSK hlk2
   obtain ⟨d0, d1, d2⟩ := HS3.out.oc
   obtain ⟨y0, y1, y2⟩ := HS3.out.oz
   have HSY := Lib.hid (HS3.out.out (.slice As n c) (.slice Al F.ls.length cl) (.slice At nt ct))
   have HFZ : Hid (Fd3 (((w3.setCell ⟨w.heap.size + 3, 0, none⟩ (.slice As n c)).setCell ⟨w.heap.size + 3, 1, none⟩ (.slice Al F.ls.length cl)).setCell ⟨w.heap.size + 3, 2, none⟩ (.slice At nt ct)) As n c Al F.ls.length cl At nt ct F) := ⟨(Sl.out3 (x := w.heap.size + 3) (HH.out.hs.below HS3.out.bl (Nat.le_refl _)) (by omega)).more (by have := HS3.out.bl.size; simp; omega), (Sl.out3 (x := w.heap.size + 3) (HH.out.hl.below HS3.out.bl (Nat.le_refl _)) (by omega)).more (by have := HS3.out.bl.size; simp; omega), (Sl.out3 (x := w.heap.size + 3) (HH.out.ht.below HS3.out.bl (Nat.le_refl _)) (by omega)).more (by have := HS3.out.bl.size; simp; omega)⟩
   go_wp2_with fail
   clear d0 d1 d2 y0 y1 y2
   generalize World.setCell (World.setCell (World.setCell w3 _ _) _ _) _ _ = wz at *
   obtain ⟨t0, t1, t2⟩ := HSY.out.oc
   exact bodyPost_ret (v := .tuple #[.agg #[.slice As n c, .slice Al F.ls.length cl, .slice At nt ct], .int .i64 0]) (by simp [results, Tryz.results13, go_sem, t0, t1, t2]) rfl ⟨.inr ⟨HR.out, _, _, _, _, _, _, _, _, _, rfl, by unfold Hid; rw [HTO.out]; exact HFZ.out, fun _ _ h1 h2 h3 => ⟨h1, h2, h3⟩⟩, HSY.out.bl⟩
  rcases hsk2 : sk with _ | _
  ·have HTO : Hid (evTo ds F 2 d p q = ⟨F.s.set d (1), F.ls, F.st⟩) := by unfold Hid; rw [to2, ← HLK.out, ← HSK.out, hlk2, hsk2]; rfl
   have HR : Hid (stpErr ns ds F 2 d p q = 0) := by unfold Hid; rw [HRV.out]; unfold evErr; rw [if_neg (by decide), if_pos rfl]; rw [HKD.out, if_pos h5]
   clear HLK HSK hlk2 hsk2
   have HFS := Lib.hid ((HH.out.hs.below HS3.out.bl (Nat.le_refl _)).more HS3.out.bl.size)
   go_wp2_with fail
   clear f0 f1 f2 e0 e1 e2 e3
   refine (turn_any As Al At n c F.ls.length cl nt ct F.s 1 d w3 HFS.out (by have := HL3.out; omega) hdS.out).mono ?_
   rintro e wt ⟨A', c', rfl, hO, hbt⟩
   have HST := Lib.hid (HS3.out.later hbt.out)
   have HOT := Lib.hid (hO.out.mono HS3.out.b3.lt)
   clear hO hbt
   obtain ⟨d0, d1, d2⟩ := HST.out.oc
   obtain ⟨y0, y1, y2⟩ := HST.out.oz
   have HSY := Lib.hid (HST.out.out (.slice A' n c') (.slice Al F.ls.length cl) (.slice At nt ct))
   have HAO := Lib.hid HOT.out
   have HFZ : Hid (Fd3 (((wt.setCell ⟨w.heap.size + 3, 0, none⟩ (.slice A' n c')).setCell ⟨w.heap.size + 3, 1, none⟩ (.slice Al F.ls.length cl)).setCell ⟨w.heap.size + 3, 2, none⟩ (.slice At nt ct)) A' n c' Al F.ls.length cl At nt ct ⟨F.s.set d 1, F.ls, F.st⟩) := ⟨(Sl.of_own (own_out3 (x := w.heap.size + 3) HOT.out (Nat.lt_succ_self _))), (Sl.out3 (x := w.heap.size + 3) (HH.out.hl.below HST.out.bl (Nat.le_refl _)) (by omega)).more (by have := HST.out.bl.size; simp; omega), (Sl.out3 (x := w.heap.size + 3) (HH.out.ht.below HST.out.bl (Nat.le_refl _)) (by omega)).more (by have := HST.out.bl.size; simp; omega)⟩
   go_wp2_with fail
   clear d0 d1 d2 y0 y1 y2
   generalize World.setCell (World.setCell (World.setCell wt _ _) _ _) _ _ = wz at *
   obtain ⟨t0, t1, t2⟩ := HSY.out.oc
   exact bodyPost_ret (v := .tuple #[.agg #[.slice A' n c', .slice Al F.ls.length cl, .slice At nt ct], .int .i64 0]) (by simp [results, Tryz.results13, go_sem, t0, t1, t2]) rfl ⟨.inr ⟨HR.out, _, _, _, _, _, _, _, _, _, rfl, by unfold Hid; rw [HTO.out]; exact HFZ.out, fun g hg _ h2 h3 => ⟨ap_own HAO.out (by omega), h2, h3⟩⟩, HSY.out.bl⟩
  ·have HTO : Hid (evTo ds F 2 d p q = F) := by unfold Hid; rw [to2, ← HLK.out, ← HSK.out, hlk2, hsk2]; rfl
   have HR : Hid (stpErr ns ds F 2 d p q = 0) := by unfold Hid; rw [HRV.out]; unfold evErr; rw [if_neg (by decide), if_pos rfl]; rw [HKD.out, if_pos h5]
   clear HLK HSK hlk2 hsk2
   obtain ⟨d0, d1, d2⟩ := HS3.out.oc
   obtain ⟨y0, y1, y2⟩ := HS3.out.oz
   have HSY := Lib.hid (HS3.out.out (.slice As n c) (.slice Al F.ls.length cl) (.slice At nt ct))
   have HFZ : Hid (Fd3 (((w3.setCell ⟨w.heap.size + 3, 0, none⟩ (.slice As n c)).setCell ⟨w.heap.size + 3, 1, none⟩ (.slice Al F.ls.length cl)).setCell ⟨w.heap.size + 3, 2, none⟩ (.slice At nt ct)) As n c Al F.ls.length cl At nt ct F) := ⟨(Sl.out3 (x := w.heap.size + 3) (HH.out.hs.below HS3.out.bl (Nat.le_refl _)) (by omega)).more (by have := HS3.out.bl.size; simp; omega), (Sl.out3 (x := w.heap.size + 3) (HH.out.hl.below HS3.out.bl (Nat.le_refl _)) (by omega)).more (by have := HS3.out.bl.size; simp; omega), (Sl.out3 (x := w.heap.size + 3) (HH.out.ht.below HS3.out.bl (Nat.le_refl _)) (by omega)).more (by have := HS3.out.bl.size; simp; omega)⟩
   go_wp2_with fail
   clear d0 d1 d2 y0 y1 y2
   generalize World.setCell (World.setCell (World.setCell w3 _ _) _ _) _ _ = wz at *
   obtain ⟨t0, t1, t2⟩ := HSY.out.oc
   exact bodyPost_ret (v := .tuple #[.agg #[.slice As n c, .slice Al F.ls.length cl, .slice At nt ct], .int .i64 0]) (by simp [results, Tryz.results13, go_sem, t0, t1, t2]) rfl ⟨.inr ⟨HR.out, _, _, _, _, _, _, _, _, _, rfl, by unfold Hid; rw [HTO.out]; exact HFZ.out, fun _ _ h1 h2 h3 => ⟨h1, h2, h3⟩⟩, HSY.out.bl⟩
 have qk2 : (k == 2) = false := by simpa using h2
 by_cases h3 : k = 3
 ·subst h3
  by_cases hq : q = 0; rotate_left
  ·have qq : (q != 0) = true := by simpa using hq
   have HR : Hid (stpErr ns ds F 3 d p q = 14) := by unfold Hid; rw [HRU.out, if_pos (by unfold unuB; rw [if_neg (by decide), if_neg (by decide), if_neg (by decide)]; simpa using hq)]
   obtain ⟨d0, d1, d2⟩ := HS2.out.oc
   obtain ⟨y0, y1, y2⟩ := HS2.out.oz
   have HSY := Lib.hid (HS2.out.out (.slice none 0 0) (.slice none 0 0) (.slice none 0 0))
   go_wp2_with fail
   clear d0 d1 d2 y0 y1 y2
   generalize World.setCell (World.setCell (World.setCell w2 _ _) _ _) _ _ = wz at *
   obtain ⟨t0, t1, t2⟩ := HSY.out.oc
   exact bodyPost_ret (v := .tuple #[.agg #[.slice none 0 0, .slice none 0 0, .slice none 0 0], .int .i64 14]) (by simp [results, Tryz.results13, go_sem, t0, t1, t2]) rfl ⟨.inl ⟨by rw [HR.out]; decide, by rw [HR.out]⟩, HSY.out.bl⟩
  have qq : (q != 0) = false := by simpa using hq
  have HRV : Hid (stpErr ns ds F 3 d p q = evErr ns ds F 3 d p q) := by unfold Hid; rw [HRU.out, if_neg (by unfold unuB; rw [if_neg (by decide), if_neg (by decide), if_neg (by decide)]; simpa using hq)]
  clear HRU
  have c1 := HKC.out w2 HS2.out.bl
  obtain ⟨f0, f1, f2⟩ := HS2.out.fc
  go_wp2_with fail
  clear c1 f0 f1 f2 e0 e1 e2 e3 k0 k1
  refine (rlocked_any Al F.ls.length cl w.heap.size F.ls d w2 (HH.out.hl.below HS2.out.bl (Nat.le_refl _)) HS2.out.bl.size).mono ?_
  rintro e w3 ⟨rfl, hb3⟩
  have HS3 := Lib.hid (HS2.out.later hb3)
  clear hb3 HS2
  unfold lckE
  rw [← HLK.out]
  obtain ⟨f0, f1, f2⟩ := HS3.out.fc
  obtain ⟨e0, e1, e2, e3⟩ := HS3.out.ec
  obtain ⟨k0, k1⟩ := HS3.out.nc
  go_wp2_with fail
  refine (rhas_any At nt ct F.st d w3 ((HH.out.ht.below HS3.out.bl (Nat.le_refl _)).more HS3.out.bl.size)).mono ?_
  rintro e w4 ⟨rfl, rfl⟩
  rw [← HSK.out]
  by_cases h5 : kd = 6; rotate_left
  ·have qk : (kd != 6) = true := by simpa using h5
   have HR : Hid (stpErr ns ds F 3 d p q = 6) := by unfold Hid; rw [HRV.out]; unfold evErr; rw [if_neg (by decide), if_neg (by decide), if_pos rfl]; rw [HKD.out, if_neg h5]
   obtain ⟨d0, d1, d2⟩ := HS3.out.oc
   obtain ⟨y0, y1, y2⟩ := HS3.out.oz
   have HSY := Lib.hid (HS3.out.out (.slice none 0 0) (.slice none 0 0) (.slice none 0 0))
   go_wp2_with fail
   clear d0 d1 d2 y0 y1 y2
   generalize World.setCell (World.setCell (World.setCell w3 _ _) _ _) _ _ = wz at *
   obtain ⟨t0, t1, t2⟩ := HSY.out.oc
   exact bodyPost_ret (v := .tuple #[.agg #[.slice none 0 0, .slice none 0 0, .slice none 0 0], .int .i64 6]) (by simp [results, Tryz.results13, go_sem, t0, t1, t2]) rfl ⟨.inl ⟨by rw [HR.out]; decide, by rw [HR.out]⟩, HSY.out.bl⟩
  have qk : (kd != 6) = false := by simpa using h5
  rcases hpp : posB p with _ | _
  ·have HR : Hid (stpErr ns ds F 3 d p q = 10) := by unfold Hid; rw [HRV.out]; unfold evErr; rw [if_neg (by decide), if_neg (by decide), if_pos rfl]; rw [HKD.out, if_pos h5, if_neg (by simp [hpp])]
   go_wp2_with fail
   refine (rfpos_any p w3).mono ?_
   rintro e w5 ⟨rfl, rfl⟩
   rw [hpp]
   obtain ⟨d0, d1, d2⟩ := HS3.out.oc
   obtain ⟨y0, y1, y2⟩ := HS3.out.oz
   have HSY := Lib.hid (HS3.out.out (.slice none 0 0) (.slice none 0 0) (.slice none 0 0))
   go_wp2_with fail
   clear d0 d1 d2 y0 y1 y2
   generalize World.setCell (World.setCell (World.setCell w3 _ _) _ _) _ _ = wz at *
   obtain ⟨t0, t1, t2⟩ := HSY.out.oc
   exact bodyPost_ret (v := .tuple #[.agg #[.slice none 0 0, .slice none 0 0, .slice none 0 0], .int .i64 10]) (by simp [results, Tryz.results13, go_sem, t0, t1, t2]) rfl ⟨.inl ⟨by rw [HR.out]; decide, by rw [HR.out]⟩, HSY.out.bl⟩
  go_wp2_with fail
  refine (rfpos_any p w3).mono ?_
  rintro e w5 ⟨rfl, rfl⟩
  rw [hpp]
  rcases hlk2 : lk with _ | _; rotate_left
  ·have HTO : Hid (evTo ds F 3 d p q = F) := by unfold Hid; rw [to3, ← HLK.out, hlk2]; rfl
   have HR : Hid (stpErr ns ds F 3 d p q = 0) := by unfold Hid; rw [HRV.out]; unfold evErr; rw [if_neg (by decide), if_neg (by decide), if_pos rfl]; rw [HKD.out, if_pos h5, if_pos hpp]
   clear HLK HSK hlk2
   obtain ⟨d0, d1, d2⟩ := HS3.out.oc
   obtain ⟨y0, y1, y2⟩ := HS3.out.oz
   have HSY := Lib.hid (HS3.out.out (.slice As n c) (.slice Al F.ls.length cl) (.slice At nt ct))
   have HFZ : Hid (Fd3 (((w3.setCell ⟨w.heap.size + 3, 0, none⟩ (.slice As n c)).setCell ⟨w.heap.size + 3, 1, none⟩ (.slice Al F.ls.length cl)).setCell ⟨w.heap.size + 3, 2, none⟩ (.slice At nt ct)) As n c Al F.ls.length cl At nt ct F) := ⟨(Sl.out3 (x := w.heap.size + 3) (HH.out.hs.below HS3.out.bl (Nat.le_refl _)) (by omega)).more (by have := HS3.out.bl.size; simp; omega), (Sl.out3 (x := w.heap.size + 3) (HH.out.hl.below HS3.out.bl (Nat.le_refl _)) (by omega)).more (by have := HS3.out.bl.size; simp; omega), (Sl.out3 (x := w.heap.size + 3) (HH.out.ht.below HS3.out.bl (Nat.le_refl _)) (by omega)).more (by have := HS3.out.bl.size; simp; omega)⟩
   go_wp2_with fail
   clear d0 d1 d2 y0 y1 y2
   generalize World.setCell (World.setCell (World.setCell w3 _ _) _ _) _ _ = wz at *
   obtain ⟨t0, t1, t2⟩ := HSY.out.oc
   exact bodyPost_ret (v := .tuple #[.agg #[.slice As n c, .slice Al F.ls.length cl, .slice At nt ct], .int .i64 0]) (by simp [results, Tryz.results13, go_sem, t0, t1, t2]) rfl ⟨.inr ⟨HR.out, _, _, _, _, _, _, _, _, _, rfl, by unfold Hid; rw [HTO.out]; exact HFZ.out, fun _ _ h1 h2 h3 => ⟨h1, h2, h3⟩⟩, HSY.out.bl⟩
  rcases hsk2 : sk with _ | _
  ·have HTO : Hid (evTo ds F 3 d p q = ⟨F.s.set d (p), F.ls, F.st⟩) := by unfold Hid; rw [to3, ← HLK.out, ← HSK.out, hlk2, hsk2]; rfl
   have HR : Hid (stpErr ns ds F 3 d p q = 0) := by unfold Hid; rw [HRV.out]; unfold evErr; rw [if_neg (by decide), if_neg (by decide), if_pos rfl]; rw [HKD.out, if_pos h5, if_pos hpp]
   clear HLK HSK hlk2 hsk2
   have HFS := Lib.hid ((HH.out.hs.below HS3.out.bl (Nat.le_refl _)).more HS3.out.bl.size)
   go_wp2_with fail
   clear f0 f1 f2 e0 e1 e2 e3
   refine (turn_any As Al At n c F.ls.length cl nt ct F.s p d w3 HFS.out (by have := HL3.out; omega) hdS.out).mono ?_
   rintro e wt ⟨A', c', rfl, hO, hbt⟩
   have HST := Lib.hid (HS3.out.later hbt.out)
   have HOT := Lib.hid (hO.out.mono HS3.out.b3.lt)
   clear hO hbt
   obtain ⟨d0, d1, d2⟩ := HST.out.oc
   obtain ⟨y0, y1, y2⟩ := HST.out.oz
   have HSY := Lib.hid (HST.out.out (.slice A' n c') (.slice Al F.ls.length cl) (.slice At nt ct))
   have HAO := Lib.hid HOT.out
   have HFZ : Hid (Fd3 (((wt.setCell ⟨w.heap.size + 3, 0, none⟩ (.slice A' n c')).setCell ⟨w.heap.size + 3, 1, none⟩ (.slice Al F.ls.length cl)).setCell ⟨w.heap.size + 3, 2, none⟩ (.slice At nt ct)) A' n c' Al F.ls.length cl At nt ct ⟨F.s.set d p, F.ls, F.st⟩) := ⟨(Sl.of_own (own_out3 (x := w.heap.size + 3) HOT.out (Nat.lt_succ_self _))), (Sl.out3 (x := w.heap.size + 3) (HH.out.hl.below HST.out.bl (Nat.le_refl _)) (by omega)).more (by have := HST.out.bl.size; simp; omega), (Sl.out3 (x := w.heap.size + 3) (HH.out.ht.below HST.out.bl (Nat.le_refl _)) (by omega)).more (by have := HST.out.bl.size; simp; omega)⟩
   go_wp2_with fail
   clear d0 d1 d2 y0 y1 y2
   generalize World.setCell (World.setCell (World.setCell wt _ _) _ _) _ _ = wz at *
   obtain ⟨t0, t1, t2⟩ := HSY.out.oc
   exact bodyPost_ret (v := .tuple #[.agg #[.slice A' n c', .slice Al F.ls.length cl, .slice At nt ct], .int .i64 0]) (by simp [results, Tryz.results13, go_sem, t0, t1, t2]) rfl ⟨.inr ⟨HR.out, _, _, _, _, _, _, _, _, _, rfl, by unfold Hid; rw [HTO.out]; exact HFZ.out, fun g hg _ h2 h3 => ⟨ap_own HAO.out (by omega), h2, h3⟩⟩, HSY.out.bl⟩
  ·have HTO : Hid (evTo ds F 3 d p q = F) := by unfold Hid; rw [to3, ← HLK.out, ← HSK.out, hlk2, hsk2]; rfl
   have HR : Hid (stpErr ns ds F 3 d p q = 0) := by unfold Hid; rw [HRV.out]; unfold evErr; rw [if_neg (by decide), if_neg (by decide), if_pos rfl]; rw [HKD.out, if_pos h5, if_pos hpp]
   clear HLK HSK hlk2 hsk2
   obtain ⟨d0, d1, d2⟩ := HS3.out.oc
   obtain ⟨y0, y1, y2⟩ := HS3.out.oz
   have HSY := Lib.hid (HS3.out.out (.slice As n c) (.slice Al F.ls.length cl) (.slice At nt ct))
   have HFZ : Hid (Fd3 (((w3.setCell ⟨w.heap.size + 3, 0, none⟩ (.slice As n c)).setCell ⟨w.heap.size + 3, 1, none⟩ (.slice Al F.ls.length cl)).setCell ⟨w.heap.size + 3, 2, none⟩ (.slice At nt ct)) As n c Al F.ls.length cl At nt ct F) := ⟨(Sl.out3 (x := w.heap.size + 3) (HH.out.hs.below HS3.out.bl (Nat.le_refl _)) (by omega)).more (by have := HS3.out.bl.size; simp; omega), (Sl.out3 (x := w.heap.size + 3) (HH.out.hl.below HS3.out.bl (Nat.le_refl _)) (by omega)).more (by have := HS3.out.bl.size; simp; omega), (Sl.out3 (x := w.heap.size + 3) (HH.out.ht.below HS3.out.bl (Nat.le_refl _)) (by omega)).more (by have := HS3.out.bl.size; simp; omega)⟩
   go_wp2_with fail
   clear d0 d1 d2 y0 y1 y2
   generalize World.setCell (World.setCell (World.setCell w3 _ _) _ _) _ _ = wz at *
   obtain ⟨t0, t1, t2⟩ := HSY.out.oc
   exact bodyPost_ret (v := .tuple #[.agg #[.slice As n c, .slice Al F.ls.length cl, .slice At nt ct], .int .i64 0]) (by simp [results, Tryz.results13, go_sem, t0, t1, t2]) rfl ⟨.inr ⟨HR.out, _, _, _, _, _, _, _, _, _, rfl, by unfold Hid; rw [HTO.out]; exact HFZ.out, fun _ _ h1 h2 h3 => ⟨h1, h2, h3⟩⟩, HSY.out.bl⟩
 have qk3 : (k == 3) = false := by simpa using h3
 by_cases h4 : k = 4
 ·subst h4
  by_cases hp : p = 0; rotate_left
  ·have qp : (p != 0) = true := by simpa using hp
   have HR : Hid (stpErr ns ds F 4 d p q = 14) := by unfold Hid; rw [HRU.out, if_pos (by unfold unuB; rw [if_neg (by decide), if_neg (by decide), if_pos (by decide)]; simp [hp])]
   obtain ⟨d0, d1, d2⟩ := HS2.out.oc
   obtain ⟨y0, y1, y2⟩ := HS2.out.oz
   have HSY := Lib.hid (HS2.out.out (.slice none 0 0) (.slice none 0 0) (.slice none 0 0))
   go_wp2_with fail
   clear d0 d1 d2 y0 y1 y2
   generalize World.setCell (World.setCell (World.setCell w2 _ _) _ _) _ _ = wz at *
   obtain ⟨t0, t1, t2⟩ := HSY.out.oc
   exact bodyPost_ret (v := .tuple #[.agg #[.slice none 0 0, .slice none 0 0, .slice none 0 0], .int .i64 14]) (by simp [results, Tryz.results13, go_sem, t0, t1, t2]) rfl ⟨.inl ⟨by rw [HR.out]; decide, by rw [HR.out]⟩, HSY.out.bl⟩
  have qp : (p != 0) = false := by simpa using hp
  by_cases hq : q = 0; rotate_left
  ·have qq : (q != 0) = true := by simpa using hq
   have HR : Hid (stpErr ns ds F 4 d p q = 14) := by unfold Hid; rw [HRU.out, if_pos (by unfold unuB; rw [if_neg (by decide), if_neg (by decide), if_pos (by decide)]; simp [hq])]
   obtain ⟨d0, d1, d2⟩ := HS2.out.oc
   obtain ⟨y0, y1, y2⟩ := HS2.out.oz
   have HSY := Lib.hid (HS2.out.out (.slice none 0 0) (.slice none 0 0) (.slice none 0 0))
   go_wp2_with fail
   clear d0 d1 d2 y0 y1 y2
   generalize World.setCell (World.setCell (World.setCell w2 _ _) _ _) _ _ = wz at *
   obtain ⟨t0, t1, t2⟩ := HSY.out.oc
   exact bodyPost_ret (v := .tuple #[.agg #[.slice none 0 0, .slice none 0 0, .slice none 0 0], .int .i64 14]) (by simp [results, Tryz.results13, go_sem, t0, t1, t2]) rfl ⟨.inl ⟨by rw [HR.out]; decide, by rw [HR.out]⟩, HSY.out.bl⟩
  have qq : (q != 0) = false := by simpa using hq
  have HRV : Hid (stpErr ns ds F 4 d p q = evErr ns ds F 4 d p q) := by unfold Hid; rw [HRU.out, if_neg (by unfold unuB; rw [if_neg (by decide), if_neg (by decide), if_pos (by decide)]; simp [hp, hq])]
  clear HRU
  have c1 := HKC.out w2 HS2.out.bl
  obtain ⟨f0, f1, f2⟩ := HS2.out.fc
  go_wp2_with fail
  clear c1 f0 f1 f2 e0 e1 e2 e3 k0 k1
  refine (rlocked_any Al F.ls.length cl w.heap.size F.ls d w2 (HH.out.hl.below HS2.out.bl (Nat.le_refl _)) HS2.out.bl.size).mono ?_
  rintro e w3 ⟨rfl, hb3⟩
  have HS3 := Lib.hid (HS2.out.later hb3)
  clear hb3 HS2
  unfold lckE
  rw [← HLK.out]
  obtain ⟨f0, f1, f2⟩ := HS3.out.fc
  obtain ⟨e0, e1, e2, e3⟩ := HS3.out.ec
  obtain ⟨k0, k1⟩ := HS3.out.nc
  go_wp2_with fail
  refine (rhas_any At nt ct F.st d w3 ((HH.out.ht.below HS3.out.bl (Nat.le_refl _)).more HS3.out.bl.size)).mono ?_
  rintro e w4 ⟨rfl, rfl⟩
  rw [← HSK.out]
  go_wp2_with fail
  clear e0 e1 e2 e3 k0 k1 f0 f1 f2
  have hH3 : Hid (w.heap.size + 4 ≤ w3.heap.size) := HS3.out.b3.lt
  refine wp_loop_u2 [(15, 0), (0, 2), (0, 3), (140, 0), (31, 1), (62, 0)] 16 17 (nd) (RsR w #[.slice An nn cn, .slice (some ⟨bd, off, none⟩) nd cd] #[.slice As n c, .slice Al F.ls.length cl, .slice At nt ct] #[.int .i64 4, .int .i64 (d : Int), .int .i64 p, .int .i64 q] #[.slice none 0 0, .slice none 0 0, .slice none 0 0] F.st (d : Int) true nd) (by (try dsimp only [gt]); exact ⟨0, 0, 0, none, rfl, rfl, Nat.zero_le _, rfl, World.ownsRow_nil _ _ _ _, HS3⟩) (by kernel_rfl) ?_
  intro u1 p16 p17 gk wr a hrel ha J1 K1 hJ1 hK1
  dsimp only [relaxR, v2, Nat.reduceAdd] at ha
  subst ha
  clear HS3
  obtain ⟨i, m, cc, A, rfl, rfl, hi, rfl, hO, hS⟩ := hrel
  obtain ⟨k0, k1⟩ := hS.out.nc
  obtain ⟨f0, f1, f2⟩ := hS.out.fc
  obtain ⟨e0, e1, e2, e3⟩ := hS.out.ec
  have hml : m ≤ i := by have := stk_len (stkTo_ok i F.st d true); rw [hO.out.len] at this; exact this
  have hsz := hS.out.b3.lt
  have hnd64 : nd ≤ 64 := by have := HL2.out; omega
  by_cases hlt : i < nd
  ·by_cases hid : i = d
   ·have qx : ((i : Int) != (d : Int)) = false := by simp; omega
    have qy : ((i : Int) == (d : Int)) = true := by simp; omega
    have qxn : (i != d) = false := by simpa using hid
    have qyn : (i == d) = true := by simpa using hid
    have HID := Lib.hid hid
    clear hid
    go_wp2_with (at_builtin; go_must (refine wpList_app rfl (.tmp 187) (.tmp 189) rfl el_int (by rfl) (hO.out.alloc _) (by rfl) (Sl.newest (n := 1) (by simp) (by rfl) (by decide)) (by simp [Value.oneCell']) (by omega) (by omega) (by simp; omega) ?_; intro A' cap' wn hown3 hgr3 hat3; have HO3 := Lib.hid hown3; have HG3 := Lib.hid hgr3; clear hown3 hgr3 hat3))
    have HN : Hid (IntsO wn (w.heap.size + 4) A' (m + 1) cap' (stkTo (i + 1) F.st d true)) := by
     unfold Hid IntsO
     rw [rng_keep, if_pos (by rw [if_pos (by have := HID.out; omega)]), intsV_append]
     exact HO3.out
    have HSN : Hid (St4 w #[.slice An nn cn, .slice (some ⟨bd, off, none⟩) nd cd] #[.slice As n c, .slice Al F.ls.length cl, .slice At nt ct] #[.int .i64 4, .int .i64 (d : Int), .int .i64 p, .int .i64 q] #[.slice none 0 0, .slice none 0 0, .slice none 0 0] wn) := (hS.out.later ((Below.refl _ _).alloc (Nat.le_refl _) _)).gr HG3.out (fun g e => (hO.out.lt g e).1)
    refine Handed.intro (nd - (i + 1)) (by omega) (hJ1 _ _ _ (LpI2.back 16 17 ?_ (by kernel_rfl)))
    dsimp only [gt]
    exact ⟨i + 1, m + 1, cap', A', rfl, by go_num, by omega, rfl, HN, HSN⟩
   ·have qx : ((i : Int) != (d : Int)) = true := by simp; omega
    have qy : ((i : Int) == (d : Int)) = false := by simp; omega
    have qxn : (i != d) = true := by simpa using hid
    have qyn : (i == d) = false := by simpa using hid
    go_wp2_with fail
    refine (rhas_any At nt ct F.st i wr ((HH.out.ht.below hS.out.bl (Nat.le_refl _)).more hS.out.bl.size)).mono ?_
    rintro e w5 ⟨rfl, rfl⟩
    by_cases hmi : (i : Int) ∈ F.st
    ·rw [decide_eq_true hmi]
     go_wp2_with (at_builtin; go_must (refine wpList_app rfl (.tmp 187) (.tmp 189) rfl el_int (by rfl) (hO.out.alloc _) (by rfl) (Sl.newest (n := 1) (by simp) (by rfl) (by decide)) (by simp [Value.oneCell']) (by omega) (by omega) (by simp; omega) ?_; intro A' cap' wn hown3 hgr3 hat3; have HO3 := Lib.hid hown3; have HG3 := Lib.hid hgr3; clear hown3 hgr3 hat3))
     have HN : Hid (IntsO wn (w.heap.size + 4) A' (m + 1) cap' (stkTo (i + 1) F.st d true)) := by
      unfold Hid IntsO
      rw [rng_keep, if_pos (by rw [if_neg (by omega)]; exact decide_eq_true hmi), intsV_append]
      exact HO3.out
     have HSN : Hid (St4 w #[.slice An nn cn, .slice (some ⟨bd, off, none⟩) nd cd] #[.slice As n c, .slice Al F.ls.length cl, .slice At nt ct] #[.int .i64 4, .int .i64 (d : Int), .int .i64 p, .int .i64 q] #[.slice none 0 0, .slice none 0 0, .slice none 0 0] wn) := (hS.out.later ((Below.refl _ _).alloc (Nat.le_refl _) _)).gr HG3.out (fun g e => (hO.out.lt g e).1)
     refine Handed.intro (nd - (i + 1)) (by omega) (hJ1 _ _ _ (LpI2.back 16 17 ?_ (by kernel_rfl)))
     dsimp only [gt]
     exact ⟨i + 1, m + 1, cap', A', rfl, by go_num, by omega, rfl, HN, HSN⟩
    ·rw [decide_eq_false hmi]
     go_wp2_with fail
     have HN : Hid (IntsO wr (w.heap.size + 4) A m cc (stkTo (i + 1) F.st d true)) := by
      unfold Hid
      rw [rng_keep, if_neg (by rw [if_neg (by omega)]; simpa using hmi), List.append_nil]
      exact hO.out
     refine Handed.intro (nd - (i + 1)) (by omega) (hJ1 _ _ _ (LpI2.back 16 17 ?_ (by kernel_rfl)))
     dsimp only [gt]
     exact ⟨i + 1, m, cc, A, rfl, by go_num, by omega, rfl, HN, hS⟩
  ·obtain rfl : i = nd := by omega
   have hii : decide (i < i) = false := by simp
   have y2 := hS.out.b1.frozen 2
   have HST : Hid (St4 w #[.slice An nn cn, .slice (some ⟨bd, off, none⟩) i cd] #[.slice As n c, .slice Al F.ls.length cl, .slice A m cc] #[.int .i64 4, .int .i64 (d : Int), .int .i64 p, .int .i64 q] #[.slice none 0 0, .slice none 0 0, .slice none 0 0] (wr.setCell ⟨w.heap.size + 1, 2, none⟩ (.slice A m cc))) := hS.out.fld 2 _
   have HOT := Lib.hid (own_far (x := w.heap.size + 1) (i := 2) (u := .slice A m cc) hO.out (by omega))
   clear hml
   go_upto_region 45 with (fail)
   clear k0 k1 f0 f1 f2 e0 e1 e2 e3 y2
   generalize World.setCell wr _ _ = wt at *
   obtain ⟨f0, f1, f2⟩ := HST.out.fc
   have HTO : Hid (evTo ds F 4 d p q = ⟨F.s, F.ls, stkTo i F.st d true⟩) := by
    unfold Hid evTo; rw [if_neg (by decide), if_pos (by decide), HL2.out]; rfl
   have HR : Hid (stpErr ns ds F 4 d p q = 0) := by unfold Hid; rw [HRV.out]; unfold evErr; rw [if_neg (by decide), if_neg (by decide), if_neg (by decide), if_pos (by decide)]
   obtain ⟨d0, d1, d2⟩ := HST.out.oc
   obtain ⟨y0, y1, y2⟩ := HST.out.oz
   have HSY := Lib.hid (HST.out.out (.slice As n c) (.slice Al F.ls.length cl) (.slice A m cc))
   have HAO := Lib.hid HOT.out
   have HFZ : Hid (Fd3 (((wt.setCell ⟨w.heap.size + 3, 0, none⟩ (.slice As n c)).setCell ⟨w.heap.size + 3, 1, none⟩ (.slice Al F.ls.length cl)).setCell ⟨w.heap.size + 3, 2, none⟩ (.slice A m cc)) As n c Al F.ls.length cl A m cc ⟨F.s, F.ls, stkTo i F.st d true⟩) := ⟨(Sl.out3 (x := w.heap.size + 3) (HH.out.hs.below HST.out.bl (Nat.le_refl _)) (by omega)).more (by have := HST.out.bl.size; simp; omega), (Sl.out3 (x := w.heap.size + 3) (HH.out.hl.below HST.out.bl (Nat.le_refl _)) (by omega)).more (by have := HST.out.bl.size; simp; omega), (Sl.of_own (own_out3 (x := w.heap.size + 3) HOT.out (by omega)))⟩
   go_wp2_with fail
   clear d0 d1 d2 y0 y1 y2
   generalize World.setCell (World.setCell (World.setCell wt _ _) _ _) _ _ = wz at *
   obtain ⟨t0, t1, t2⟩ := HSY.out.oc
   exact bodyPost_ret (v := .tuple #[.agg #[.slice As n c, .slice Al F.ls.length cl, .slice A m cc], .int .i64 0]) (by simp [results, Tryz.results13, go_sem, t0, t1, t2]) rfl ⟨.inr ⟨HR.out, _, _, _, _, _, _, _, _, _, rfl, by unfold Hid; rw [HTO.out]; exact HFZ.out, fun g hg h1 h2 _ => ⟨h1, h2, ap_own HAO.out (by omega)⟩⟩, HSY.out.bl⟩
 have qk4 : (k == 4) = false := by simpa using h4
 by_cases h5 : k = 5
 ·subst h5
  by_cases hp : p = 0; rotate_left
  ·have qp : (p != 0) = true := by simpa using hp
   have HR : Hid (stpErr ns ds F 5 d p q = 14) := by unfold Hid; rw [HRU.out, if_pos (by unfold unuB; rw [if_neg (by decide), if_neg (by decide), if_pos (by decide)]; simp [hp])]
   obtain ⟨d0, d1, d2⟩ := HS2.out.oc
   obtain ⟨y0, y1, y2⟩ := HS2.out.oz
   have HSY := Lib.hid (HS2.out.out (.slice none 0 0) (.slice none 0 0) (.slice none 0 0))
   go_wp2_with fail
   clear d0 d1 d2 y0 y1 y2
   generalize World.setCell (World.setCell (World.setCell w2 _ _) _ _) _ _ = wz at *
   obtain ⟨t0, t1, t2⟩ := HSY.out.oc
   exact bodyPost_ret (v := .tuple #[.agg #[.slice none 0 0, .slice none 0 0, .slice none 0 0], .int .i64 14]) (by simp [results, Tryz.results13, go_sem, t0, t1, t2]) rfl ⟨.inl ⟨by rw [HR.out]; decide, by rw [HR.out]⟩, HSY.out.bl⟩
  have qp : (p != 0) = false := by simpa using hp
  by_cases hq : q = 0; rotate_left
  ·have qq : (q != 0) = true := by simpa using hq
   have HR : Hid (stpErr ns ds F 5 d p q = 14) := by unfold Hid; rw [HRU.out, if_pos (by unfold unuB; rw [if_neg (by decide), if_neg (by decide), if_pos (by decide)]; simp [hq])]
   obtain ⟨d0, d1, d2⟩ := HS2.out.oc
   obtain ⟨y0, y1, y2⟩ := HS2.out.oz
   have HSY := Lib.hid (HS2.out.out (.slice none 0 0) (.slice none 0 0) (.slice none 0 0))
   go_wp2_with fail
   clear d0 d1 d2 y0 y1 y2
   generalize World.setCell (World.setCell (World.setCell w2 _ _) _ _) _ _ = wz at *
   obtain ⟨t0, t1, t2⟩ := HSY.out.oc
   exact bodyPost_ret (v := .tuple #[.agg #[.slice none 0 0, .slice none 0 0, .slice none 0 0], .int .i64 14]) (by simp [results, Tryz.results13, go_sem, t0, t1, t2]) rfl ⟨.inl ⟨by rw [HR.out]; decide, by rw [HR.out]⟩, HSY.out.bl⟩
  have qq : (q != 0) = false := by simpa using hq
  have HRV : Hid (stpErr ns ds F 5 d p q = evErr ns ds F 5 d p q) := by unfold Hid; rw [HRU.out, if_neg (by unfold unuB; rw [if_neg (by decide), if_neg (by decide), if_pos (by decide)]; simp [hp, hq])]
  clear HRU
  have c1 := HKC.out w2 HS2.out.bl
  obtain ⟨f0, f1, f2⟩ := HS2.out.fc
  go_wp2_with fail
  clear c1 f0 f1 f2 e0 e1 e2 e3 k0 k1
  refine (rlocked_any Al F.ls.length cl w.heap.size F.ls d w2 (HH.out.hl.below HS2.out.bl (Nat.le_refl _)) HS2.out.bl.size).mono ?_
  rintro e w3 ⟨rfl, hb3⟩
  have HS3 := Lib.hid (HS2.out.later hb3)
  clear hb3 HS2
  unfold lckE
  rw [← HLK.out]
  obtain ⟨f0, f1, f2⟩ := HS3.out.fc
  obtain ⟨e0, e1, e2, e3⟩ := HS3.out.ec
  obtain ⟨k0, k1⟩ := HS3.out.nc
  go_wp2_with fail
  refine (rhas_any At nt ct F.st d w3 ((HH.out.ht.below HS3.out.bl (Nat.le_refl _)).more HS3.out.bl.size)).mono ?_
  rintro e w4 ⟨rfl, rfl⟩
  rw [← HSK.out]
  go_wp2_with fail
  clear e0 e1 e2 e3 k0 k1 f0 f1 f2
  have hH3 : Hid (w.heap.size + 4 ≤ w3.heap.size) := HS3.out.b3.lt
  refine wp_loop_u2 [(15, 0), (0, 2), (0, 3), (140, 0), (31, 1), (62, 0)] 16 17 (nd) (RsR w #[.slice An nn cn, .slice (some ⟨bd, off, none⟩) nd cd] #[.slice As n c, .slice Al F.ls.length cl, .slice At nt ct] #[.int .i64 5, .int .i64 (d : Int), .int .i64 p, .int .i64 q] #[.slice none 0 0, .slice none 0 0, .slice none 0 0] F.st (d : Int) false nd) (by (try dsimp only [gt]); exact ⟨0, 0, 0, none, rfl, rfl, Nat.zero_le _, rfl, World.ownsRow_nil _ _ _ _, HS3⟩) (by kernel_rfl) ?_
  intro u1 p16 p17 gk wr a hrel ha J1 K1 hJ1 hK1
  dsimp only [relaxR, v2, Nat.reduceAdd] at ha
  subst ha
  clear HS3
  obtain ⟨i, m, cc, A, rfl, rfl, hi, rfl, hO, hS⟩ := hrel
  obtain ⟨k0, k1⟩ := hS.out.nc
  obtain ⟨f0, f1, f2⟩ := hS.out.fc
  obtain ⟨e0, e1, e2, e3⟩ := hS.out.ec
  have hml : m ≤ i := by have := stk_len (stkTo_ok i F.st d false); rw [hO.out.len] at this; exact this
  have hsz := hS.out.b3.lt
  have hnd64 : nd ≤ 64 := by have := HL2.out; omega
  by_cases hlt : i < nd
  ·by_cases hid : i = d
   ·have qx : ((i : Int) != (d : Int)) = false := by simp; omega
    have qy : ((i : Int) == (d : Int)) = true := by simp; omega
    have qxn : (i != d) = false := by simpa using hid
    have qyn : (i == d) = true := by simpa using hid
    have HID := Lib.hid hid
    clear hid
    go_wp2_with fail
    have HN : Hid (IntsO wr (w.heap.size + 4) A m cc (stkTo (i + 1) F.st d false)) := by
     unfold Hid
     rw [rng_keep, if_neg (by rw [if_pos (by have := HID.out; omega)]; simp), List.append_nil]
     exact hO.out
    refine Handed.intro (nd - (i + 1)) (by omega) (hJ1 _ _ _ (LpI2.back 16 17 ?_ (by kernel_rfl)))
    dsimp only [gt]
    exact ⟨i + 1, m, cc, A, rfl, by go_num, by omega, rfl, HN, hS⟩
   ·have qx : ((i : Int) != (d : Int)) = true := by simp; omega
    have qy : ((i : Int) == (d : Int)) = false := by simp; omega
    have qxn : (i != d) = true := by simpa using hid
    have qyn : (i == d) = false := by simpa using hid
    go_wp2_with fail
    refine (rhas_any At nt ct F.st i wr ((HH.out.ht.below hS.out.bl (Nat.le_refl _)).more hS.out.bl.size)).mono ?_
    rintro e w5 ⟨rfl, rfl⟩
    by_cases hmi : (i : Int) ∈ F.st
    ·rw [decide_eq_true hmi]
     go_wp2_with (at_builtin; go_must (refine wpList_app rfl (.tmp 187) (.tmp 189) rfl el_int (by rfl) (hO.out.alloc _) (by rfl) (Sl.newest (n := 1) (by simp) (by rfl) (by decide)) (by simp [Value.oneCell']) (by omega) (by omega) (by simp; omega) ?_; intro A' cap' wn hown3 hgr3 hat3; have HO3 := Lib.hid hown3; have HG3 := Lib.hid hgr3; clear hown3 hgr3 hat3))
     have HN : Hid (IntsO wn (w.heap.size + 4) A' (m + 1) cap' (stkTo (i + 1) F.st d false)) := by
      unfold Hid IntsO
      rw [rng_keep, if_pos (by rw [if_neg (by omega)]; exact decide_eq_true hmi), intsV_append]
      exact HO3.out
     have HSN : Hid (St4 w #[.slice An nn cn, .slice (some ⟨bd, off, none⟩) nd cd] #[.slice As n c, .slice Al F.ls.length cl, .slice At nt ct] #[.int .i64 5, .int .i64 (d : Int), .int .i64 p, .int .i64 q] #[.slice none 0 0, .slice none 0 0, .slice none 0 0] wn) := (hS.out.later ((Below.refl _ _).alloc (Nat.le_refl _) _)).gr HG3.out (fun g e => (hO.out.lt g e).1)
     refine Handed.intro (nd - (i + 1)) (by omega) (hJ1 _ _ _ (LpI2.back 16 17 ?_ (by kernel_rfl)))
     dsimp only [gt]
     exact ⟨i + 1, m + 1, cap', A', rfl, by go_num, by omega, rfl, HN, HSN⟩
    ·rw [decide_eq_false hmi]
     go_wp2_with fail
     have HN : Hid (IntsO wr (w.heap.size + 4) A m cc (stkTo (i + 1) F.st d false)) := by
      unfold Hid
      rw [rng_keep, if_neg (by rw [if_neg (by omega)]; simpa using hmi), List.append_nil]
      exact hO.out
     refine Handed.intro (nd - (i + 1)) (by omega) (hJ1 _ _ _ (LpI2.back 16 17 ?_ (by kernel_rfl)))
     dsimp only [gt]
     exact ⟨i + 1, m, cc, A, rfl, by go_num, by omega, rfl, HN, hS⟩
  ·obtain rfl : i = nd := by omega
   have hii : decide (i < i) = false := by simp
   have y2 := hS.out.b1.frozen 2
   have HST : Hid (St4 w #[.slice An nn cn, .slice (some ⟨bd, off, none⟩) i cd] #[.slice As n c, .slice Al F.ls.length cl, .slice A m cc] #[.int .i64 5, .int .i64 (d : Int), .int .i64 p, .int .i64 q] #[.slice none 0 0, .slice none 0 0, .slice none 0 0] (wr.setCell ⟨w.heap.size + 1, 2, none⟩ (.slice A m cc))) := hS.out.fld 2 _
   have HOT := Lib.hid (own_far (x := w.heap.size + 1) (i := 2) (u := .slice A m cc) hO.out (by omega))
   clear hml
   go_upto_region 45 with (fail)
   clear k0 k1 f0 f1 f2 e0 e1 e2 e3 y2
   generalize World.setCell wr _ _ = wt at *
   obtain ⟨f0, f1, f2⟩ := HST.out.fc
   have HTO : Hid (evTo ds F 5 d p q = ⟨F.s, F.ls, stkTo i F.st d false⟩) := by
    unfold Hid evTo; rw [if_neg (by decide), if_pos (by decide), HL2.out]; rfl
   have HR : Hid (stpErr ns ds F 5 d p q = 0) := by unfold Hid; rw [HRV.out]; unfold evErr; rw [if_neg (by decide), if_neg (by decide), if_neg (by decide), if_pos (by decide)]
   obtain ⟨d0, d1, d2⟩ := HST.out.oc
   obtain ⟨y0, y1, y2⟩ := HST.out.oz
   have HSY := Lib.hid (HST.out.out (.slice As n c) (.slice Al F.ls.length cl) (.slice A m cc))
   have HAO := Lib.hid HOT.out
   have HFZ : Hid (Fd3 (((wt.setCell ⟨w.heap.size + 3, 0, none⟩ (.slice As n c)).setCell ⟨w.heap.size + 3, 1, none⟩ (.slice Al F.ls.length cl)).setCell ⟨w.heap.size + 3, 2, none⟩ (.slice A m cc)) As n c Al F.ls.length cl A m cc ⟨F.s, F.ls, stkTo i F.st d false⟩) := ⟨(Sl.out3 (x := w.heap.size + 3) (HH.out.hs.below HST.out.bl (Nat.le_refl _)) (by omega)).more (by have := HST.out.bl.size; simp; omega), (Sl.out3 (x := w.heap.size + 3) (HH.out.hl.below HST.out.bl (Nat.le_refl _)) (by omega)).more (by have := HST.out.bl.size; simp; omega), (Sl.of_own (own_out3 (x := w.heap.size + 3) HOT.out (by omega)))⟩
   go_wp2_with fail
   clear d0 d1 d2 y0 y1 y2
   generalize World.setCell (World.setCell (World.setCell wt _ _) _ _) _ _ = wz at *
   obtain ⟨t0, t1, t2⟩ := HSY.out.oc
   exact bodyPost_ret (v := .tuple #[.agg #[.slice As n c, .slice Al F.ls.length cl, .slice A m cc], .int .i64 0]) (by simp [results, Tryz.results13, go_sem, t0, t1, t2]) rfl ⟨.inr ⟨HR.out, _, _, _, _, _, _, _, _, _, rfl, by unfold Hid; rw [HTO.out]; exact HFZ.out, fun g hg h1 h2 _ => ⟨h1, h2, ap_own HAO.out (by omega)⟩⟩, HSY.out.bl⟩
 have qk5 : (k == 5) = false := by simpa using h5
 by_cases h6 : k = 6
 ·subst h6
  have HRV : Hid (stpErr ns ds F 6 d p q = evErr ns ds F 6 d p q) := by unfold Hid; rw [HRU.out, if_neg (by unfold unuB; rw [if_pos rfl]; simp)]
  clear HRU
  have c1 := HKC.out w2 HS2.out.bl
  obtain ⟨f0, f1, f2⟩ := HS2.out.fc
  go_wp2_with fail
  clear c1 f0 f1 f2 e0 e1 e2 e3 k0 k1
  refine (rlocked_any Al F.ls.length cl w.heap.size F.ls d w2 (HH.out.hl.below HS2.out.bl (Nat.le_refl _)) HS2.out.bl.size).mono ?_
  rintro e w3 ⟨rfl, hb3⟩
  have HS3 := Lib.hid (HS2.out.later hb3)
  clear hb3 HS2
  unfold lckE
  rw [← HLK.out]
  obtain ⟨f0, f1, f2⟩ := HS3.out.fc
  obtain ⟨e0, e1, e2, e3⟩ := HS3.out.ec
  obtain ⟨k0, k1⟩ := HS3.out.nc
  go_wp2_with fail
  refine (rhas_any At nt ct F.st d w3 ((HH.out.ht.below HS3.out.bl (Nat.le_refl _)).more HS3.out.bl.size)).mono ?_
  rintro e w4 ⟨rfl, rfl⟩
  rw [← HSK.out]
  obtain ⟨bs, os, sv, hAs, hbs, hsv, hcs⟩ := (HH.out.hs.below HS3.out.bl (Nat.le_refl _)).at1 hdS.out
  subst hAs
  have HSV := Lib.hid (getDf hsv)
  have HP : Hid (∀ W : World, Calls Tryz.prog 38 #[.int .i64 p] W fun e w' => e = .returned (.bool (posB p)) ∧ W = w') := fun W => rfpos_any p W
  clear hsv
  have hnm := HH.out.hs.le
  have hdn2 := hdS.out
  rcases hpp : posB p with _ | _
  ·have HR : Hid (stpErr ns ds F 6 d p q = 10) := by unfold Hid; rw [HRV.out]; unfold evErr; rw [if_neg (by decide), if_neg (by decide), if_neg (by decide), if_neg (by decide), if_pos rfl]; rw [if_neg (by simp [hpp])]
   rw [hpp] at HP
   go_wp2_with fail
   go_quiet ((go_at_call 38; exact quiet_eq (HP.out _)))
   have HS4 := Lib.hid (HS3.out.later (below_drewN (Below.refl _ _) nq))
   clear hcs f0 f1 f2 e0 e1 e2 e3 k0 k1
   generalize World.drewN w3 nq = w4 at *
   obtain ⟨d0, d1, d2⟩ := HS4.out.oc
   obtain ⟨y0, y1, y2⟩ := HS4.out.oz
   have HSY := Lib.hid (HS4.out.out (.slice none 0 0) (.slice none 0 0) (.slice none 0 0))
   go_wp2_with fail
   clear d0 d1 d2 y0 y1 y2
   generalize World.setCell (World.setCell (World.setCell w4 _ _) _ _) _ _ = wz at *
   obtain ⟨t0, t1, t2⟩ := HSY.out.oc
   exact bodyPost_ret (v := .tuple #[.agg #[.slice none 0 0, .slice none 0 0, .slice none 0 0], .int .i64 10]) (by simp [results, Tryz.results13, go_sem, t0, t1, t2]) rfl ⟨.inl ⟨by rw [HR.out]; decide, by rw [HR.out]⟩, HSY.out.bl⟩
  rw [hpp] at HP
  by_cases hv : sv = p; rotate_left
  ·have qv : (sv != p) = true := by simpa using hv
   have HR : Hid (stpErr ns ds F 6 d p q = 10) := by unfold Hid; rw [HRV.out]; unfold evErr; rw [if_neg (by decide), if_neg (by decide), if_neg (by decide), if_neg (by decide), if_pos rfl]; rw [if_neg (by rw [Int.toNat_natCast, HSV.out]; simp [hv])]
   go_wp2_with fail
   go_quiet ((go_at_call 38; exact quiet_eq (HP.out _)))
   have HS4 := Lib.hid (HS3.out.later (below_drewN (Below.refl _ _) nq))
   clear hcs f0 f1 f2 e0 e1 e2 e3 k0 k1
   generalize World.drewN w3 nq = w4 at *
   obtain ⟨d0, d1, d2⟩ := HS4.out.oc
   obtain ⟨y0, y1, y2⟩ := HS4.out.oz
   have HSY := Lib.hid (HS4.out.out (.slice none 0 0) (.slice none 0 0) (.slice none 0 0))
   go_wp2_with fail
   clear d0 d1 d2 y0 y1 y2
   generalize World.setCell (World.setCell (World.setCell w4 _ _) _ _) _ _ = wz at *
   obtain ⟨t0, t1, t2⟩ := HSY.out.oc
   exact bodyPost_ret (v := .tuple #[.agg #[.slice none 0 0, .slice none 0 0, .slice none 0 0], .int .i64 10]) (by simp [results, Tryz.results13, go_sem, t0, t1, t2]) rfl ⟨.inl ⟨by rw [HR.out]; decide, by rw [HR.out]⟩, HSY.out.bl⟩
  have qv : (sv != p) = false := by simpa using hv
  have HRA : Hid (stpErr ns ds F 6 d p q = addErr ns ds F.ls ⟨(d : Int), p, q⟩) := by unfold Hid; rw [HRV.out]; unfold evErr; rw [if_neg (by decide), if_neg (by decide), if_neg (by decide), if_neg (by decide), if_pos rfl]; rw [if_pos ⟨hpp, by rw [Int.toNat_natCast, HSV.out]; exact hv⟩]
  go_wp2_with fail
  go_quiet ((go_at_call 38; exact quiet_eq (HP.out _)))
  have HS4 := Lib.hid (HS3.out.later (below_drewN (Below.refl _ _) nq))
  clear hcs f0 f1 f2 e0 e1 e2 e3 k0 k1 HS3
  generalize World.drewN w3 nq = w4 at *
  obtain ⟨f0, f1, f2⟩ := HS4.out.fc
  obtain ⟨e0, e1, e2, e3⟩ := HS4.out.ec
  obtain ⟨k0, k1⟩ := HS4.out.nc
  go_wp2_with fail
  clear f0 f1 f2 e0 e1 e2 e3 k0 k1
  refine (radd_any An (some ⟨bd, off, none⟩) Al nn cn nd cd cl w.heap.size w.heap.size w.heap.size ns ds F.ls d p q w4 (HH.out.hn.below HS4.out.bl (Nat.le_refl _)) (HH.out.hd.below HS4.out.bl (Nat.le_refl _)) (HH.out.hl.below HS4.out.bl (Nat.le_refl _)) HS4.out.bl.size HS4.out.bl.size HS4.out.bl.size HH.out.sn HH.out.sd).mono ?_
  rintro e wa ⟨⟨h1, rfl⟩ | ⟨h1, A', c', rfl, hO⟩, hba⟩
  ·have HSA := Lib.hid (HS4.out.later hba.out)
   obtain ⟨E, hE⟩ : ∃ E, E = addErr ns ds F.ls ⟨(d : Int), p, q⟩ := ⟨_, rfl⟩
   rw [← hE] at h1 HRA ⊢
   have HR := Lib.hid HRA.out
   have HNZ := Lib.hid h1
   have qe : (E != 0) = true := by simpa using h1
   clear h1 hE hba
   obtain ⟨d0, d1, d2⟩ := HSA.out.oc
   obtain ⟨y0, y1, y2⟩ := HSA.out.oz
   have HSY := Lib.hid (HSA.out.out (.slice none 0 0) (.slice none 0 0) (.slice none 0 0))
   go_wp2_with fail
   clear d0 d1 d2 y0 y1 y2
   generalize World.setCell (World.setCell (World.setCell wa _ _) _ _) _ _ = wz at *
   obtain ⟨t0, t1, t2⟩ := HSY.out.oc
   exact bodyPost_ret (v := .tuple #[.agg #[.slice none 0 0, .slice none 0 0, .slice none 0 0], .int .i64 E]) (by simp [results, Tryz.results13, go_sem, t0, t1, t2]) rfl ⟨.inl ⟨by rw [HR.out]; exact HNZ.out, by rw [HR.out]⟩, HSY.out.bl⟩
  ·have HSA := Lib.hid (HS4.out.later hba.out)
   have HR : Hid (stpErr ns ds F 6 d p q = 0) := by unfold Hid; rw [HRA.out, h1]
   have HTO : Hid (evTo ds F 6 d p q = ⟨F.s, insL ⟨(d : Int), p, q⟩ F.ls, F.st⟩) := rfl
   have HOA : Hid (wa.ownsRow (w.heap.size + 4) 46 3 (.slice A' (F.ls.length + 1) c') (F.ls.length + 1) ((insL ⟨(d : Int), p, q⟩ F.ls).flatMap Lk.cells)) := World.ownsRow.mono hO.out HS4.out.b3.lt
   clear hO hba h1
   have y1 := HSA.out.b1.frozen 1
   obtain ⟨f0, f1, f2⟩ := HSA.out.fc
   have HST : Hid (St4 w #[.slice An nn cn, .slice (some ⟨bd, off, none⟩) nd cd] #[.slice (some ⟨bs, os, none⟩) n c, .slice A' (F.ls.length + 1) c', .slice At nt ct] #[.int .i64 6, .int .i64 (d : Int), .int .i64 p, .int .i64 q] #[.slice none 0 0, .slice none 0 0, .slice none 0 0] (wa.setCell ⟨w.heap.size + 1, 1, none⟩ (.slice A' (F.ls.length + 1) c'))) := HSA.out.fld 1 _
   have HOT := Lib.hid (own_far (x := w.heap.size + 1) (i := 1) (u := .slice A' (F.ls.length + 1) c') HOA.out (by omega))
   go_upto_region 53 with (fail)
   clear f0 f1 f2 y1
   generalize World.setCell wa _ _ = wt at *
   obtain ⟨f0, f1, f2⟩ := HST.out.fc
   obtain ⟨d0, d1, d2⟩ := HST.out.oc
   obtain ⟨y0, y1, y2⟩ := HST.out.oz
   have HSY := Lib.hid (HST.out.out (.slice (some ⟨bs, os, none⟩) n c) (.slice A' (F.ls.length + 1) c') (.slice At nt ct))
   have HAO := Lib.hid HOT.out
   have HFZ : Hid (Fd3 (((wt.setCell ⟨w.heap.size + 3, 0, none⟩ (.slice (some ⟨bs, os, none⟩) n c)).setCell ⟨w.heap.size + 3, 1, none⟩ (.slice A' (F.ls.length + 1) c')).setCell ⟨w.heap.size + 3, 2, none⟩ (.slice At nt ct)) (some ⟨bs, os, none⟩) n c A' (F.ls.length + 1) c' At nt ct ⟨F.s, insL ⟨(d : Int), p, q⟩ F.ls, F.st⟩) := ⟨(Sl.out3 (x := w.heap.size + 3) (HH.out.hs.below HST.out.bl (Nat.le_refl _)) (by omega)).more (by have := HST.out.bl.size; simp; omega), (Sl.of_own (own_out3 (x := w.heap.size + 3) HOT.out (by omega))), (Sl.out3 (x := w.heap.size + 3) (HH.out.ht.below HST.out.bl (Nat.le_refl _)) (by omega)).more (by have := HST.out.bl.size; simp; omega)⟩
   go_wp2_with fail
   clear d0 d1 d2 y0 y1 y2
   generalize World.setCell (World.setCell (World.setCell wt _ _) _ _) _ _ = wz at *
   obtain ⟨t0, t1, t2⟩ := HSY.out.oc
   exact bodyPost_ret (v := .tuple #[.agg #[.slice (some ⟨bs, os, none⟩) n c, .slice A' (F.ls.length + 1) c', .slice At nt ct], .int .i64 0]) (by simp [results, Tryz.results13, go_sem, t0, t1, t2]) rfl ⟨.inr ⟨HR.out, _, _, _, _, _, _, _, _, _, rfl, by unfold Hid; rw [HTO.out]; exact HFZ.out, fun g hg h1 _ h3 => ⟨h1, ap_own HAO.out (by omega), h3⟩⟩, HSY.out.bl⟩
 have qk6 : (k == 6) = false := by simpa using h6
 by_cases h7 : k = 7
 ·subst h7
  by_cases hp : p = 0; rotate_left
  ·have qp : (p != 0) = true := by simpa using hp
   have HR : Hid (stpErr ns ds F 7 d p q = 14) := by unfold Hid; rw [HRU.out, if_pos (by unfold unuB; rw [if_neg (by decide), if_pos rfl]; simpa using hp)]
   obtain ⟨d0, d1, d2⟩ := HS2.out.oc
   obtain ⟨y0, y1, y2⟩ := HS2.out.oz
   have HSY := Lib.hid (HS2.out.out (.slice none 0 0) (.slice none 0 0) (.slice none 0 0))
   go_wp2_with fail
   clear d0 d1 d2 y0 y1 y2
   generalize World.setCell (World.setCell (World.setCell w2 _ _) _ _) _ _ = wz at *
   obtain ⟨t0, t1, t2⟩ := HSY.out.oc
   exact bodyPost_ret (v := .tuple #[.agg #[.slice none 0 0, .slice none 0 0, .slice none 0 0], .int .i64 14]) (by simp [results, Tryz.results13, go_sem, t0, t1, t2]) rfl ⟨.inl ⟨by rw [HR.out]; decide, by rw [HR.out]⟩, HSY.out.bl⟩
  have qp : (p != 0) = false := by simpa using hp
  have HRV : Hid (stpErr ns ds F 7 d p q = evErr ns ds F 7 d p q) := by unfold Hid; rw [HRU.out, if_neg (by unfold unuB; rw [if_neg (by decide), if_pos rfl]; simpa using hp)]
  clear HRU
  have c1 := HKC.out w2 HS2.out.bl
  obtain ⟨f0, f1, f2⟩ := HS2.out.fc
  go_wp2_with fail
  clear c1 f0 f1 f2 e0 e1 e2 e3 k0 k1
  refine (rlocked_any Al F.ls.length cl w.heap.size F.ls d w2 (HH.out.hl.below HS2.out.bl (Nat.le_refl _)) HS2.out.bl.size).mono ?_
  rintro e w3 ⟨rfl, hb3⟩
  have HS3 := Lib.hid (HS2.out.later hb3)
  clear hb3 HS2
  unfold lckE
  rw [← HLK.out]
  obtain ⟨f0, f1, f2⟩ := HS3.out.fc
  obtain ⟨e0, e1, e2, e3⟩ := HS3.out.ec
  obtain ⟨k0, k1⟩ := HS3.out.nc
  go_wp2_with fail
  refine (rhas_any At nt ct F.st d w3 ((HH.out.ht.below HS3.out.bl (Nat.le_refl _)).more HS3.out.bl.size)).mono ?_
  rintro e w4 ⟨rfl, rfl⟩
  rw [← HSK.out]
  go_wp2_with fail
  clear f0 f1 f2 e0 e1 e2 e3 k0 k1
  refine (rremove_any An (some ⟨bd, off, none⟩) Al nn cn nd cd F.ls.length cl w.heap.size w.heap.size w.heap.size ns ds F.ls d q w3 rfl (HH.out.hn.below HS3.out.bl (Nat.le_refl _)) (HH.out.hd.below HS3.out.bl (Nat.le_refl _)) (HH.out.hl.below HS3.out.bl (Nat.le_refl _)) HS3.out.bl.size HS3.out.bl.size HS3.out.bl.size HH.out.sn HH.out.sd).mono ?_
  rintro e wa ⟨⟨h1, _⟩ | ⟨_, h1, rfl⟩ | ⟨_, ix, A', c', h1, rfl, hO⟩, hba⟩
  ·exact absurd HLE.out h1
  ·have HSA := Lib.hid (HS3.out.later hba.out)
   have HR : Hid (stpErr ns ds F 7 d p q = 15) := by unfold Hid; rw [HRV.out]; unfold evErr; rw [if_neg (by decide), if_neg (by decide), if_neg (by decide), if_neg (by decide), if_neg (by decide), if_pos rfl]; rw [if_pos h1]
   clear h1 hba
   obtain ⟨d0, d1, d2⟩ := HSA.out.oc
   obtain ⟨y0, y1, y2⟩ := HSA.out.oz
   have HSY := Lib.hid (HSA.out.out (.slice none 0 0) (.slice none 0 0) (.slice none 0 0))
   go_wp2_with fail
   clear d0 d1 d2 y0 y1 y2
   generalize World.setCell (World.setCell (World.setCell wa _ _) _ _) _ _ = wz at *
   obtain ⟨t0, t1, t2⟩ := HSY.out.oc
   exact bodyPost_ret (v := .tuple #[.agg #[.slice none 0 0, .slice none 0 0, .slice none 0 0], .int .i64 15]) (by simp [results, Tryz.results13, go_sem, t0, t1, t2]) rfl ⟨.inl ⟨by rw [HR.out]; decide, by rw [HR.out]⟩, HSY.out.bl⟩
  ·have HSA := Lib.hid (HS3.out.later hba.out)
   have HR : Hid (stpErr ns ds F 7 d p q = 0) := by unfold Hid; rw [HRV.out]; unfold evErr; rw [if_neg (by decide), if_neg (by decide), if_neg (by decide), if_neg (by decide), if_neg (by decide), if_pos rfl]; rw [if_neg (by rw [h1]; simp)]
   have HTO : Hid (evTo ds F 7 d p q = ⟨F.s, F.ls.eraseIdx ix, F.st⟩) := by unfold Hid evTo; rw [if_neg (by decide), if_neg (by decide), if_neg (by decide), if_pos rfl, h1]
   have HOA : Hid (wa.ownsRow (w.heap.size + 4) 46 3 (.slice A' (F.ls.length - 1) c') (F.ls.length - 1) ((F.ls.eraseIdx ix).flatMap Lk.cells)) := World.ownsRow.mono hO.out HS3.out.b3.lt
   clear hO hba h1
   have y1 := HSA.out.b1.frozen 1
   obtain ⟨f0, f1, f2⟩ := HSA.out.fc
   have HST : Hid (St4 w #[.slice An nn cn, .slice (some ⟨bd, off, none⟩) nd cd] #[.slice As n c, .slice A' (F.ls.length - 1) c', .slice At nt ct] #[.int .i64 7, .int .i64 (d : Int), .int .i64 p, .int .i64 q] #[.slice none 0 0, .slice none 0 0, .slice none 0 0] (wa.setCell ⟨w.heap.size + 1, 1, none⟩ (.slice A' (F.ls.length - 1) c'))) := HSA.out.fld 1 _
   have HOT := Lib.hid (own_far (x := w.heap.size + 1) (i := 1) (u := .slice A' (F.ls.length - 1) c') HOA.out (by omega))
   go_upto_region 59 with (fail)
   clear f0 f1 f2 y1
   generalize World.setCell wa _ _ = wt at *
   obtain ⟨f0, f1, f2⟩ := HST.out.fc
   obtain ⟨d0, d1, d2⟩ := HST.out.oc
   obtain ⟨y0, y1, y2⟩ := HST.out.oz
   have HSY := Lib.hid (HST.out.out (.slice As n c) (.slice A' (F.ls.length - 1) c') (.slice At nt ct))
   have HAO := Lib.hid HOT.out
   have HFZ : Hid (Fd3 (((wt.setCell ⟨w.heap.size + 3, 0, none⟩ (.slice As n c)).setCell ⟨w.heap.size + 3, 1, none⟩ (.slice A' (F.ls.length - 1) c')).setCell ⟨w.heap.size + 3, 2, none⟩ (.slice At nt ct)) As n c A' (F.ls.length - 1) c' At nt ct ⟨F.s, F.ls.eraseIdx ix, F.st⟩) := ⟨(Sl.out3 (x := w.heap.size + 3) (HH.out.hs.below HST.out.bl (Nat.le_refl _)) (by omega)).more (by have := HST.out.bl.size; simp; omega), (Sl.of_own (own_out3 (x := w.heap.size + 3) HOT.out (by omega))), (Sl.out3 (x := w.heap.size + 3) (HH.out.ht.below HST.out.bl (Nat.le_refl _)) (by omega)).more (by have := HST.out.bl.size; simp; omega)⟩
   go_wp2_with fail
   clear d0 d1 d2 y0 y1 y2
   generalize World.setCell (World.setCell (World.setCell wt _ _) _ _) _ _ = wz at *
   obtain ⟨t0, t1, t2⟩ := HSY.out.oc
   exact bodyPost_ret (v := .tuple #[.agg #[.slice As n c, .slice A' (F.ls.length - 1) c', .slice At nt ct], .int .i64 0]) (by simp [results, Tryz.results13, go_sem, t0, t1, t2]) rfl ⟨.inr ⟨HR.out, _, _, _, _, _, _, _, _, _, rfl, by unfold Hid; rw [HTO.out]; exact HFZ.out, fun g hg h1 _ h3 => ⟨h1, ap_own HAO.out (by omega), h3⟩⟩, HSY.out.bl⟩
 have qk7 : (k == 7) = false := by simpa using h7
 have qn6 : (k != 6) = true := by simpa using h6
 have qn7 : (k != 7) = true := by simpa using h7
 by_cases hq : q = 0; rotate_left
 ·have qq : (q != 0) = true := by simpa using hq
  have HR : Hid (stpErr ns ds F k d p q = 14) := by unfold Hid; rw [HRU.out, if_pos (by unfold unuB; rw [if_neg h6, if_neg h7, if_neg (by omega)]; simpa using hq)]
  obtain ⟨d0, d1, d2⟩ := HS2.out.oc
  obtain ⟨y0, y1, y2⟩ := HS2.out.oz
  have HSY := Lib.hid (HS2.out.out (.slice none 0 0) (.slice none 0 0) (.slice none 0 0))
  go_wp2_with fail
  clear d0 d1 d2 y0 y1 y2
  generalize World.setCell (World.setCell (World.setCell w2 _ _) _ _) _ _ = wz at *
  obtain ⟨t0, t1, t2⟩ := HSY.out.oc
  exact bodyPost_ret (v := .tuple #[.agg #[.slice none 0 0, .slice none 0 0, .slice none 0 0], .int .i64 14]) (by simp [results, Tryz.results13, go_sem, t0, t1, t2]) rfl ⟨.inl ⟨by rw [HR.out]; decide, by rw [HR.out]⟩, HSY.out.bl⟩
 have qq : (q != 0) = false := by simpa using hq
 have HRV : Hid (stpErr ns ds F k d p q = evErr ns ds F k d p q) := by unfold Hid; rw [HRU.out, if_neg (by unfold unuB; rw [if_neg h6, if_neg h7, if_neg (by omega)]; simpa using hq)]
 clear HRU
 have c1 := HKC.out w2 HS2.out.bl
 obtain ⟨f0, f1, f2⟩ := HS2.out.fc
 go_wp2_with fail
 clear c1 f0 f1 f2 e0 e1 e2 e3 k0 k1
 refine (rlocked_any Al F.ls.length cl w.heap.size F.ls d w2 (HH.out.hl.below HS2.out.bl (Nat.le_refl _)) HS2.out.bl.size).mono ?_
 rintro e w3 ⟨rfl, hb3⟩
 have HS3 := Lib.hid (HS2.out.later hb3)
 clear hb3 HS2
 unfold lckE
 rw [← HLK.out]
 obtain ⟨f0, f1, f2⟩ := HS3.out.fc
 obtain ⟨e0, e1, e2, e3⟩ := HS3.out.ec
 obtain ⟨k0, k1⟩ := HS3.out.nc
 go_wp2_with fail
 refine (rhas_any At nt ct F.st d w3 ((HH.out.ht.below HS3.out.bl (Nat.le_refl _)).more HS3.out.bl.size)).mono ?_
 rintro e w4 ⟨rfl, rfl⟩
 rw [← HSK.out]
 have HR : Hid (stpErr ns ds F k d p q = 6) := by unfold Hid; rw [HRV.out]; unfold evErr; rw [if_neg h1, if_neg h2, if_neg h3, if_neg (by omega), if_neg h6, if_neg h7]
 obtain ⟨d0, d1, d2⟩ := HS3.out.oc
 obtain ⟨y0, y1, y2⟩ := HS3.out.oz
 have HSY := Lib.hid (HS3.out.out (.slice none 0 0) (.slice none 0 0) (.slice none 0 0))
 go_wp2_with fail
 clear d0 d1 d2 y0 y1 y2
 generalize World.setCell (World.setCell (World.setCell w3 _ _) _ _) _ _ = wz at *
 obtain ⟨t0, t1, t2⟩ := HSY.out.oc
 exact bodyPost_ret (v := .tuple #[.agg #[.slice none 0 0, .slice none 0 0, .slice none 0 0], .int .i64 6]) (by simp [results, Tryz.results13, go_sem, t0, t1, t2]) rfl ⟨.inl ⟨by rw [HR.out]; decide, by rw [HR.out]⟩, HSY.out.bl⟩
end Go.Proofs.YtepicjpdhpojnaaGreatDoor
