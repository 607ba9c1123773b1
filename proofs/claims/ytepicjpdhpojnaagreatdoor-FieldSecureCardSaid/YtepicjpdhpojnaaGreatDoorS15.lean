import Derived.Test.YtepicjpdhpojnaaGreatDoorS14
import Derived.Test.YtepicjpdhpojnaaGreatDoorS10
import Derived.Defers
import Derived.Recover
import Derived.Test.YtepicjpdhpojnaaGreatDoorS12
import Derived.Test.YtepicjpdhpojnaaGreatDoorS03
import Derived.Deep.LoopGhost
set_option maxRecDepth 100000
set_option maxHeartbeats 16000000
namespace Go.Proofs.YtepicjpdhpojnaaGreatDoor
open Go.RowKit
structure St5 (w : World) (cn cf ce co : Array Value) (e : Int) (wr : World) : Prop where
 b0 : Blk wr w.heap.size 30 cn
 b1 : Blk wr (w.heap.size + 1) 35 cf
 b2 : Blk wr (w.heap.size + 2) 44 ce
 b3 : Blk wr (w.heap.size + 3) 35 co
 b4 : Blk wr (w.heap.size + 4) 40 #[.int .i64 e]
 bl : Below w.heap.size w wr
theorem St5.new (w : World) (cn cf ce co : Array Value) (e : Int) : St5 w cn cf ce co e (((((w.alloc (.cells cn 30)).alloc (.cells cf 35)).alloc (.cells ce 44)).alloc (.cells co 35)).alloc (.cells #[.int .i64 e] 40)) := by
 have g1 := Blk.new (w.alloc (.cells cn 30)) 35 cf
 have g2 := Blk.new ((w.alloc (.cells cn 30)).alloc (.cells cf 35)) 44 ce
 have g3 := Blk.new (((w.alloc (.cells cn 30)).alloc (.cells cf 35)).alloc (.cells ce 44)) 35 co
 have g4 := Blk.new ((((w.alloc (.cells cn 30)).alloc (.cells cf 35)).alloc (.cells ce 44)).alloc (.cells co 35)) 40 #[.int .i64 e]
 simp only [World.size_alloc] at g1 g2 g3 g4
 exact ⟨((((Blk.new w _ _).alloc _).alloc _).alloc _).alloc _, ((g1.alloc _).alloc _).alloc _, (g2.alloc _).alloc _, g3.alloc _, g4, (((((Below.refl _ _).alloc (Nat.le_refl _) _).alloc (by simp) _).alloc (by simp; omega) _).alloc (by simp; omega) _).alloc (by simp; omega) _⟩
section
variable {w wr wr' : World} {cn cf ce co : Array Value} {e : Int}
theorem St5.later (h : St5 w cn cf ce co e wr) (hb : Below wr.heap.size wr wr') : St5 w cn cf ce co e wr' :=
 ⟨h.b0.below hb h.b0.lt, h.b1.below hb h.b1.lt, h.b2.below hb h.b2.lt, h.b3.below hb h.b3.lt, h.b4.below hb h.b4.lt, h.bl.trans (hb.mono h.bl.size)⟩
theorem St5.grown {x : Nat} (h : St5 w cn cf ce co e wr) (hg : wr.grownBy wr' (some x)) (hx : w.heap.size + 4 < x) : St5 w cn cf ce co e wr' :=
 ⟨h.b0.grown hg (by simp; omega), h.b1.grown hg (by simp; omega), h.b2.grown hg (by simp; omega), h.b3.grown hg (by simp; omega), h.b4.grown hg (by simp; omega), h.bl.trans (below_of_grown hg (by omega) h.bl.size)⟩
theorem St5.err (h : St5 w cn cf ce co e wr) (f : Int) : St5 w cn cf ce co f (wr.setCell ⟨w.heap.size + 4, 0, none⟩ (.int .i64 f)) :=
 ⟨h.b0.far (by simp) _, h.b1.far (by simp) _, h.b2.far (by simp) _, h.b3.far (by simp) _, h.b4.set 0 _, h.bl.setCell (by simp) _⟩
theorem St5.out {x y z : Value} (h : St5 w cn cf ce #[x, y, z] e wr) (u v t : Value) : St5 w cn cf ce #[u, v, t] e (((wr.setCell ⟨w.heap.size + 3, 0, none⟩ u).setCell ⟨w.heap.size + 3, 1, none⟩ v).setCell ⟨w.heap.size + 3, 2, none⟩ t) :=
 ⟨((h.b0.far (by simp) _).far (by simp) _).far (by simp) _, ((h.b1.far (by simp) _).far (by simp) _).far (by simp) _, ((h.b2.far (by simp) _).far (by simp) _).far (by simp) _, ((h.b3.set 0 _).set 1 _).set 2 _, ((h.b4.far (by simp) _).far (by simp) _).far (by simp) _, ((h.bl.setCell (by simp) _).setCell (by simp) _).setCell (by simp) _⟩
theorem St5.oc {x y z : Value} (h : St5 w cn cf ce #[x, y, z] e wr) : wr.cell? ⟨w.heap.size + 3, 0, none⟩ = some x ∧ wr.cell? ⟨w.heap.size + 3, 1, none⟩ = some y ∧ wr.cell? ⟨w.heap.size + 3, 2, none⟩ = some z ∧ wr.cell? ⟨w.heap.size + 4, 0, none⟩ = some (.int .i64 e) := ⟨h.b3.cell 0, h.b3.cell 1, h.b3.cell 2, h.b4.cell 0⟩
theorem St5.oz (h : St5 w cn cf ce co e wr) : wr.frozen? ⟨w.heap.size + 3, 0, none⟩ = false ∧ wr.frozen? ⟨w.heap.size + 3, 1, none⟩ = false ∧ wr.frozen? ⟨w.heap.size + 3, 2, none⟩ = false ∧ wr.frozen? ⟨w.heap.size + 4, 0, none⟩ = false := ⟨h.b3.frozen 0, h.b3.frozen 1, h.b3.frozen 2, h.b4.frozen 0⟩
end
theorem step1_ok (eb ob : Nat) (u : FrameMode) (w : World) (hc : w.cell? ⟨eb, 0, none⟩ = some (.int .i64 0)) :
 CallsD Tryz.prog 43 #[.pointer (some ⟨eb, 0, none⟩), .pointer (some ⟨ob, 0, none⟩)] u w fun e u' w' => u' = u ∧ (e = .returned (.tuple #[]) ∧ w' = w) := by
 go_enter_d Tryz.func43, Tryz.ntmps43
 go_wp2_with fail
 go_end0
 exact ⟨rfl, rfl⟩
theorem step1_err (eb ob : Nat) (err : Int) (x y z : Value) (u : FrameMode) (w : World) (he : err ≠ 0) (hc : w.cell? ⟨eb, 0, none⟩ = some (.int .i64 err)) (h0 : w.cell? ⟨ob, 0, none⟩ = some x) (h1 : w.cell? ⟨ob, 1, none⟩ = some y) (h2 : w.cell? ⟨ob, 2, none⟩ = some z)
 (z0 : w.frozen? ⟨ob, 0, none⟩ = false) (z1 : w.frozen? ⟨ob, 1, none⟩ = false) (z2 : w.frozen? ⟨ob, 2, none⟩ = false) :
 CallsD Tryz.prog 43 #[.pointer (some ⟨eb, 0, none⟩), .pointer (some ⟨ob, 0, none⟩)] u w fun e u' w' => u' = u ∧ (e = .returned (.tuple #[]) ∧ w' = ((w.setCell ⟨ob, 0, none⟩ (.slice none 0 0)).setCell ⟨ob, 1, none⟩ (.slice none 0 0)).setCell ⟨ob, 2, none⟩ (.slice none 0 0)) := by
 have q : (err != 0) = true := by simpa using he
 clear he
 go_enter_d Tryz.func43, Tryz.ntmps43
 go_wp2_with fail
 go_end0
 exact ⟨rfl, rfl⟩
theorem sc_fcells {w : World} {sb nn cn nd cd n c nl cl nt ct : Nat} {An Ad As Al At : Option Addr} {k d p q : Int} {lk sk : Bool} (h : Blk w sb 90 (scV An nn cn Ad nd cd As n c Al nl cl At nt ct k d p q lk sk)) :
 w.cell? ⟨sb, 2, none⟩ = some (.slice As n c) ∧ w.cell? ⟨sb, 3, none⟩ = some (.slice Al nl cl) ∧ w.cell? ⟨sb, 4, none⟩ = some (.slice At nt ct) := by
 unfold scV at h
 exact ⟨h.cell 2, h.cell 3, h.cell 4⟩
def StepPost (w : World) (ns : List Nd) (ds : List Dv) (F : Fd) (k d p q : Int) (e : Ending) (w' : World) : Prop :=
 ((stpErr ns ds F k d p q ≠ 0 ∧ e = .returned (.tuple #[.agg #[.slice none 0 0, .slice none 0 0, .slice none 0 0], .int .i64 (stpErr ns ds F k d p q)])) ∨
  stpErr ns ds F k d p q = 0 ∧ ∃ (A1 A2 A3 : Option Addr) (n1 c1 n2 c2 n3 c3 : Nat), e = .returned (.tuple #[.agg #[.slice A1 n1 c1, .slice A2 n2 c2, .slice A3 n3 c3], .int .i64 0]) ∧ Hid (IntsO w' w.heap.size A1 n1 c1 (evTo ds F k d p q).s) ∧ Hid (LocksO w' w.heap.size A2 n2 c2 (evTo ds F k d p q).ls) ∧ Hid (IntsO w' w.heap.size A3 n3 c3 (evTo ds F k d p q).st)) ∧ Hid (Below w.heap.size w w')
theorem stk_len {nd : Nat} {st : List Int} (h : StkOk nd st) : st.length ≤ nd := by
 have h1 : st.Nodup := h.srt.imp fun h => by omega
 have h2 : (rngI nd).length = nd := by unfold rngI; simp
 have := h1.length_le_of_subset (l₂ := rngI nd) fun x hx => rngI_mem.2 (h.mem hx)
 omega
theorem fd_small {ns : List Nd} {ds : List Dv} {F : Fd} (h : fdErr ns ds F = 0) : ds.length ≤ 64 ∧ F.s.length ≤ 64 ∧ F.ls.length ≤ 128 ∧ F.st.length ≤ 64 := by
 obtain ⟨h1, h2, -, h4⟩ := fdErr_zero h
 obtain ⟨h5, h6, -⟩ := stateErr_len h1
 have h7 : ds.length ≤ 64 := by
  unfold checkN at h5
  split at h5
  ·cases h5
  ·split at h5
   ·cases h5
   ·omega
 have := (locks_good h2).1
 have := stk_len h4
 omega
def onlyN (K : Act → World → Prop) : Exit → Act → World → Prop
 | .normal, a, w => K a w
 | _, _, _ => False
theorem wp_only {P : Program} {c : Code} {K : Act → World → Prop} {Q' : Exit → Act → World → Prop} {a : Act} {w : World} (h : c.wp P (onlyN K) a w) : c.wp P (Exit.then K Q') a w := by
 refine wp_mono h ?_
 intro e a' w' hq
 cases e with
 | normal => exact hq
 | _ => exact hq.elim
theorem onlyN.intro {K : Act → World → Prop} {a : Act} {w : World} (h : K a w) : onlyN K .normal a w := h
theorem fstep_any (An Ad As Al At : Option Addr) (nn cn nd cd n c nl cl nt ct : Nat) (ns : List Nd) (ds : List Dv) (F : Fd) (k d p q : Int) (w : World) (h : FdM w An Ad As Al At nn cn nd cd n c nl cl nt ct ns ds F) :
 Calls Tryz.prog 15 #[.agg #[.slice An nn cn, .slice Ad nd cd], .agg #[.slice As n c, .slice Al nl cl, .slice At nt ct], .agg #[.int .i64 k, .int .i64 d, .int .i64 p, .int .i64 q]] w (StepPost w ns ds F k d p q) := by
 obtain ⟨-, hl2, hl3, hl4, hl5⟩ := h.ln
 have HL2 := Lib.hid hl2; have HL3 := Lib.hid hl3; have HL4 := Lib.hid hl4; have HL5 := Lib.hid hl5
 have hdm := h.hd.le
 have HB : Hid (St5 w #[.slice An nn cn, .slice Ad nd cd] #[.slice As n c, .slice Al nl cl, .slice At nt ct] #[.int .i64 k, .int .i64 d, .int .i64 p, .int .i64 q] #[.slice none 0 0, .slice none 0 0, .slice none 0 0] 0 _) := St5.new w #[.slice An nn cn, .slice Ad nd cd] #[.slice As n c, .slice Al nl cl, .slice At nt ct] #[.int .i64 k, .int .i64 d, .int .i64 p, .int .i64 q] #[.slice none 0 0, .slice none 0 0, .slice none 0 0] 0
 have HH := Lib.hid h
 have hmf : ∀ (fn : Fn) (first cap : Array Value) (w : World), (Instr.makeFunc fn first cap).run Tryz.prog w = .ok (.func fn first cap) w := fun _ _ _ _ => rfl
 clear h hl2 hl3 hl4 hl5
 go_enter_defers Tryz.func15, Tryz.ntmps15
 go_upto_region 1 with (fail)
 rw [show w.heap.size + 1 + 1 + 1 + 1 = w.heap.size + 4 from rfl, show w.heap.size + 1 + 1 + 1 = w.heap.size + 3 from rfl, show w.heap.size + 1 + 1 = w.heap.size + 2 from rfl]
 generalize World.alloc (World.alloc (World.alloc (World.alloc (World.alloc w _) _) _) _) _ = w1 at *
 have HM1 := Lib.hid (HH.out.later HB.out.bl)
 have k0 : w1.cell? ⟨w.heap.size, 0, none⟩ = some (.slice An nn cn) := HB.out.b0.cell 0
 have k1 : w1.cell? ⟨w.heap.size, 1, none⟩ = some (.slice Ad nd cd) := HB.out.b0.cell 1
 have f0 : w1.cell? ⟨w.heap.size + 1, 0, none⟩ = some (.slice As n c) := HB.out.b1.cell 0
 have f1 : w1.cell? ⟨w.heap.size + 1, 1, none⟩ = some (.slice Al nl cl) := HB.out.b1.cell 1
 have f2 : w1.cell? ⟨w.heap.size + 1, 2, none⟩ = some (.slice At nt ct) := HB.out.b1.cell 2
 go_wp2_with fail
 clear k0 k1 f0 f1 f2
 refine (fcheck_any An Ad As Al At nn cn nd cd n c nl cl nt ct ns ds F w1 HM1.out).mono ?_
 rintro e w2 ⟨rfl, hb2⟩
 obtain ⟨E, hE⟩ : ∃ E, E = fdErr ns ds F := ⟨_, rfl⟩
 rw [← hE]
 have HE := Lib.hid hE
 have HB2 := Lib.hid (HB.out.later hb2)
 have g4 := HB2.out.oc.2.2.2; have z4 := HB2.out.oz.2.2.2
 have HS3 := Lib.hid (HB2.out.err E)
 clear hE hb2 HB HM1
 go_upto_region 2 with (fail)
 clear g4 z4 HB2
 generalize World.setCell w2 _ _ = w3 at *
 have g4 := HS3.out.oc.2.2.2
 by_cases h0 : E = 0; rotate_left
 ·have q0 : (E != 0) = true := by simpa using h0
  have HR : Hid (stpErr ns ds F k d p q = E) := by unfold Hid stpErr; rw [← HE.out, if_pos h0]
  have HNZ := Lib.hid h0
  clear h0
  have HSD := Lib.hid (HS3.out.later (Below.refl _ _).drew)
  obtain ⟨d0, d1, d2, -⟩ := HS3.out.oc
  obtain ⟨y0, y1, y2, -⟩ := HS3.out.oz
  go_wp2_with fail
  refine wp_only ?_
  refine wp_region_J (S := fun W' => W'.cell? ⟨w.heap.size + 4, 0, none⟩ = some (.int .i64 E)) (J := [3]) (by kernel_rfl) ?_ (fun hHeld => ?_)
  ·exact HS3.out.oc.2.2.2
  try dsimp only at hHeld
  refine tk 0 18 (mf 4 1) hHeld ?_
  refine tk 1 19 (mf 4 2) hHeld ?_
  refine wpAnyJ_oneL (k := 2) (mf 4 3) (by kernel_rfl) (by kernel_rfl) rfl (fun K hK => ?_)
  go_simp
  refine hK.out _ _ (fun _ => ?_) (fun hHeld' => ?_)
  ·exact (HSD.out.out (.slice none 0 0) (.slice none 0 0) (.slice none 0 0)).oc.2.2.2
  replace hHeld := hHeld' rfl
  clear hHeld' hK K
  try dsimp only at hHeld
  have HSE := Lib.hid ((HS3.out.out (.slice none 0 0) (.slice none 0 0) (.slice none 0 0)).later (Below.refl _ _).drew)
  generalize World.drew (World.setCell (World.setCell (World.setCell w3 _ _) _ _) _ _) = wz at *
  have g4 := HSE.out.oc.2.2.2; have z4 := HSE.out.oz.2.2.2
  refine wpAnyJ_oneL (k := 3) (mf 4 4) (by kernel_rfl) (by kernel_rfl) rfl (fun K hK => ?_)
  go_simp
  refine hK.out _ _ (fun h => by cases h) (fun _ => ?_)
  try clear hHeld
  clear hK K
  refine wpAnyJ_done (by kernel_rfl) ?_ _
  refine onlyN.intro ?_
  go_wp2_with fail
  have HSF := Lib.hid (HSE.out.err E)
  generalize World.setCell wz _ _ = wy at *
  obtain ⟨t0, t1, t2, t3⟩ := HSF.out.oc
  exact ⟨.tuple #[.agg #[.slice none 0 0, .slice none 0 0, .slice none 0 0], .int .i64 E], by simp [results, Tryz.results15, go_sem, t0, t1, t2, t3], .inl ⟨by rw [HR.out]; exact HNZ.out, by rw [HR.out]⟩, HSF.out.bl⟩
 subst h0
 have e0 : w3.cell? ⟨w.heap.size + 2, 0, none⟩ = some (.int .i64 k) := HS3.out.b2.cell 0
 have e1 : w3.cell? ⟨w.heap.size + 2, 1, none⟩ = some (.int .i64 d) := HS3.out.b2.cell 1
 have e2 : w3.cell? ⟨w.heap.size + 2, 2, none⟩ = some (.int .i64 p) := HS3.out.b2.cell 2
 have e3 : w3.cell? ⟨w.heap.size + 2, 3, none⟩ = some (.int .i64 q) := HS3.out.b2.cell 3
 have k1 : w3.cell? ⟨w.heap.size, 1, none⟩ = some (.slice Ad nd cd) := HS3.out.b0.cell 1
 by_cases hd0 : d < 0
 ·have q0 : decide (d < 0) = true := by simpa using hd0
  have HR : Hid (stpErr ns ds F k d p q = 8) := by unfold Hid stpErr; rw [if_neg (by rw [← HE.out]; simp), if_pos (.inl hd0)]
  clear hd0
  obtain ⟨d0, d1, d2, d3⟩ := HS3.out.oc
  obtain ⟨y0, y1, y2, y3⟩ := HS3.out.oz
  have HSY := Lib.hid ((HS3.out.out (.slice none 0 0) (.slice none 0 0) (.slice none 0 0)).err 8)
  go_wp2_with fail
  clear d0 d1 d2 d3 y0 y1 y2 y3
  generalize World.setCell (World.setCell (World.setCell (World.setCell w3 _ _) _ _) _ _) _ _ = wy at *
  refine leaves_cons (f := 43) (args := #[.pointer (some ⟨w.heap.size + 4, 0, none⟩), .pointer (some ⟨w.heap.size + 3, 0, none⟩)]) (by simp) (by simp [go_sem]) ?_
  refine (step1_err (w.heap.size + 4) (w.heap.size + 3) _ _ _ _ _ _ (by decide) HSY.out.oc.2.2.2 HSY.out.oc.1 HSY.out.oc.2.1 HSY.out.oc.2.2.1 HSY.out.oz.1 HSY.out.oz.2.1 HSY.out.oz.2.2.1).mono ?_
  rintro e u' w'' ⟨rfl, rfl, rfl⟩
  have HSZ := Lib.hid (HSY.out.out (.slice none 0 0) (.slice none 0 0) (.slice none 0 0))
  generalize World.setCell (World.setCell (World.setCell _ _ _) _ _) _ _ = wz at *
  obtain ⟨t0, t1, t2, t3⟩ := HSZ.out.oc
  refine ⟨.tuple #[.agg #[.slice none 0 0, .slice none 0 0, .slice none 0 0], .int .i64 8], by simp [results, Tryz.results15, go_sem, t0, t1, t2, t3], .inl ⟨by rw [HR.out]; decide, by rw [HR.out]⟩, HSZ.out.bl⟩
 have q0 : decide (d < 0) = false := by simpa using hd0
 by_cases hd1 : (nd : Int) ≤ d
 ·have q1 : decide ((nd : Int) ≤ d) = true := by simpa using hd1
  have HR : Hid (stpErr ns ds F k d p q = 8) := by unfold Hid stpErr; rw [if_neg (by rw [← HE.out]; simp), if_pos (.inr (by rw [HL2.out]; exact hd1))]
  clear hd0 hd1
  obtain ⟨d0, d1, d2, d3⟩ := HS3.out.oc
  obtain ⟨y0, y1, y2, y3⟩ := HS3.out.oz
  have HSY := Lib.hid ((HS3.out.out (.slice none 0 0) (.slice none 0 0) (.slice none 0 0)).err 8)
  go_wp2_with fail
  clear d0 d1 d2 d3 y0 y1 y2 y3
  generalize World.setCell (World.setCell (World.setCell (World.setCell w3 _ _) _ _) _ _) _ _ = wy at *
  refine leaves_cons (f := 43) (args := #[.pointer (some ⟨w.heap.size + 4, 0, none⟩), .pointer (some ⟨w.heap.size + 3, 0, none⟩)]) (by simp) (by simp [go_sem]) ?_
  refine (step1_err (w.heap.size + 4) (w.heap.size + 3) _ _ _ _ _ _ (by decide) HSY.out.oc.2.2.2 HSY.out.oc.1 HSY.out.oc.2.1 HSY.out.oc.2.2.1 HSY.out.oz.1 HSY.out.oz.2.1 HSY.out.oz.2.2.1).mono ?_
  rintro e u' w'' ⟨rfl, rfl, rfl⟩
  have HSZ := Lib.hid (HSY.out.out (.slice none 0 0) (.slice none 0 0) (.slice none 0 0))
  generalize World.setCell (World.setCell (World.setCell _ _ _) _ _) _ _ = wz at *
  obtain ⟨t0, t1, t2, t3⟩ := HSZ.out.oc
  refine ⟨.tuple #[.agg #[.slice none 0 0, .slice none 0 0, .slice none 0 0], .int .i64 8], by simp [results, Tryz.results15, go_sem, t0, t1, t2, t3], .inl ⟨by rw [HR.out]; decide, by rw [HR.out]⟩, HSZ.out.bl⟩
 have q1 : decide ((nd : Int) ≤ d) = false := by simpa using hd1
 obtain ⟨d, rfl⟩ := Int.eq_ofNat_of_zero_le (show 0 ≤ d by omega)
 have hdn : d < ds.length := by rw [HL2.out]; omega
 have q1n : decide (nd ≤ d) = false := by simp; omega
 have HRU : Hid (stpErr ns ds F k d p q = if unuB k p q = true then 14 else evErr ns ds F k d p q) := by unfold Hid stpErr; rw [if_neg (by rw [← HE.out]; simp), if_neg (by omega)]
 clear hd0 hd1
 go_wp2_with fail
 refine (unused_any k d p q w3).mono ?_
 rintro e w4 ⟨rfl, hb4⟩
 have HS4 := Lib.hid (HS3.out.later hb4)
 clear hb4 HS3 e0 e1 e2 e3 k1 q0 q1 g4
 rcases hu : unuB k p q with _ | _; rotate_left
 ·have HR : Hid (stpErr ns ds F k d p q = 14) := by unfold Hid; rw [HRU.out, if_pos hu]
  clear hu HRU
  obtain ⟨d0, d1, d2, d3⟩ := HS4.out.oc
  obtain ⟨y0, y1, y2, y3⟩ := HS4.out.oz
  have HSY := Lib.hid ((HS4.out.out (.slice none 0 0) (.slice none 0 0) (.slice none 0 0)).err 14)
  go_wp2_with fail
  clear d0 d1 d2 d3 y0 y1 y2 y3
  generalize World.setCell (World.setCell (World.setCell (World.setCell w4 _ _) _ _) _ _) _ _ = wy at *
  refine leaves_cons (f := 43) (args := #[.pointer (some ⟨w.heap.size + 4, 0, none⟩), .pointer (some ⟨w.heap.size + 3, 0, none⟩)]) (by simp) (by simp [go_sem]) ?_
  refine (step1_err (w.heap.size + 4) (w.heap.size + 3) _ _ _ _ _ _ (by decide) HSY.out.oc.2.2.2 HSY.out.oc.1 HSY.out.oc.2.1 HSY.out.oc.2.2.1 HSY.out.oz.1 HSY.out.oz.2.1 HSY.out.oz.2.2.1).mono ?_
  rintro e u' w'' ⟨rfl, rfl, rfl⟩
  have HSZ := Lib.hid (HSY.out.out (.slice none 0 0) (.slice none 0 0) (.slice none 0 0))
  generalize World.setCell (World.setCell (World.setCell _ _ _) _ _) _ _ = wz at *
  obtain ⟨t0, t1, t2, t3⟩ := HSZ.out.oc
  refine ⟨.tuple #[.agg #[.slice none 0 0, .slice none 0 0, .slice none 0 0], .int .i64 14], by simp [results, Tryz.results15, go_sem, t0, t1, t2, t3], .inl ⟨by rw [HR.out]; decide, by rw [HR.out]⟩, HSZ.out.bl⟩
 have HR : Hid (stpErr ns ds F k d p q = evErr ns ds F k d p q) := by unfold Hid; rw [HRU.out, if_neg (by simp [hu])]
 clear hu HRU
 obtain ⟨hzE, hzL, -, hzS⟩ := fdErr_zero HE.out.symm
 obtain ⟨hs1, hs2, hs3, hs4⟩ := fd_small HE.out.symm
 have HM4 := Lib.hid (HH.out.later HS4.out.bl)
 have HSS := Lib.hid hzS
 have e1 : w4.cell? ⟨w.heap.size + 2, 1, none⟩ = some (.int .i64 (d : Int)) := HS4.out.b2.cell 1
 have f1 : w4.cell? ⟨w.heap.size + 1, 1, none⟩ = some (.slice Al nl cl) := HS4.out.b1.cell 1
 clear hzE hzL hzS
 go_wp2_with fail
 clear e1 f1
 refine (locked_any Al nl cl w4.heap.size F.ls d w4 HM4.out.hl (Nat.le_refl _)).mono ?_
 rintro e w5 ⟨rfl, hb5⟩
 have HS5 := Lib.hid (HS4.out.later hb5)
 have HM5 := Lib.hid (HM4.out.later hb5)
 clear hb5 HS4 HM4
 unfold lckE
 obtain ⟨lk, hlk⟩ : ∃ x, x = (lckL F.ls (d : Int)).isSome := ⟨_, rfl⟩
 rw [← hlk]
 have HLK := Lib.hid hlk
 clear hlk
 have e1 : w5.cell? ⟨w.heap.size + 2, 1, none⟩ = some (.int .i64 (d : Int)) := HS5.out.b2.cell 1
 have f2 : w5.cell? ⟨w.heap.size + 1, 2, none⟩ = some (.slice At nt ct) := HS5.out.b1.cell 2
 go_wp2_with fail
 clear e1 f2
 refine (bsearch_any At nt ct w5.heap.size F.st d w5 HM5.out.ht (by have := HL5.out; omega) HSS.out.srt).mono ?_
 rintro e w6 ⟨rfl, m, rfl⟩
 have HS6 := Lib.hid (HS5.out.later (below_drewN (Below.refl _ _) m))
 have HM6 := Lib.hid (HM5.out.later (below_drewN (Below.refl _ _) m))
 generalize World.drewN w5 m = w6 at *
 obtain ⟨sk, hsk⟩ : ∃ x, x = decide ((d : Int) ∈ F.st) := ⟨_, rfl⟩
 rw [← hsk]
 have HSK := Lib.hid hsk
 clear hsk HS5 HM5
 have e0 : w6.cell? ⟨w.heap.size + 2, 0, none⟩ = some (.int .i64 k) := HS6.out.b2.cell 0
 have e1 : w6.cell? ⟨w.heap.size + 2, 1, none⟩ = some (.int .i64 (d : Int)) := HS6.out.b2.cell 1
 have e2 : w6.cell? ⟨w.heap.size + 2, 2, none⟩ = some (.int .i64 p) := HS6.out.b2.cell 2
 have e3 : w6.cell? ⟨w.heap.size + 2, 3, none⟩ = some (.int .i64 q) := HS6.out.b2.cell 3
 have k0 : w6.cell? ⟨w.heap.size, 0, none⟩ = some (.slice An nn cn) := HS6.out.b0.cell 0
 have k1 : w6.cell? ⟨w.heap.size, 1, none⟩ = some (.slice Ad nd cd) := HS6.out.b0.cell 1
 have f0 : w6.cell? ⟨w.heap.size + 1, 0, none⟩ = some (.slice As n c) := HS6.out.b1.cell 0
 have f1 : w6.cell? ⟨w.heap.size + 1, 1, none⟩ = some (.slice Al nl cl) := HS6.out.b1.cell 1
 have f2 : w6.cell? ⟨w.heap.size + 1, 2, none⟩ = some (.slice At nt ct) := HS6.out.b1.cell 2
 go_upto_region 12 with (fail)
 clear e0 e1 e2 e3 k0 k1 f0 f1 f2
 have HSC : Hid (Blk (w6.alloc (.cells (scV An nn cn Ad nd cd As n c Al nl cl At nt ct k d p q lk sk) 90)) w6.heap.size 90 (scV An nn cn Ad nd cd As n c Al nl cl At nt ct k d p q lk sk)) := Blk.new _ _ _
 have HBA : Hid (Below w6.heap.size w6 (w6.alloc (.cells (scV An nn cn Ad nd cd As n c Al nl cl At nt ct k d p q lk sk) 90))) := (Below.refl _ _).alloc (Nat.le_refl _) _
 have HS7 := Lib.hid (HS6.out.later HBA.out)
 have HSL : Hid (w.heap.size + 4 < w6.heap.size) := HS6.out.b4.lt
 have HSC0 : Hid (ScAt (w6.alloc (.cells (scV An nn cn Ad nd cd As n c Al nl cl At nt ct k d p q lk sk) 90)) w.heap.size w6.heap.size An nn cn ns Ad nd cd ds As n c Al nl cl At nt ct F k d p q lk sk) :=
  ⟨HSC.out, HH.out.hn.below HS7.out.bl (Nat.le_refl _), HH.out.hd.below HS7.out.bl (Nat.le_refl _), HH.out.hs.below HS7.out.bl (Nat.le_refl _), HH.out.hl.below HS7.out.bl (Nat.le_refl _), HH.out.ht.below HS7.out.bl (Nat.le_refl _), (by have := HSL.out; omega), HM6.out.la.below HBA.out (Nat.le_refl _), HM6.out.sn, HM6.out.sd, by have := HL3.out; have := HL4.out; have := HL5.out; omega⟩
 unfold scV at HSC0 HS7
 clear HSC HBA HM6 HS6
 generalize World.alloc w6 _ = wa at *
 obtain ⟨sb, hsb⟩ : ∃ x, x = w6.heap.size := ⟨_, rfl⟩
 rw [← hsb] at HSC0 HSL ⊢
 clear hsb
 have HSC1 : Hid (ScAt wa w.heap.size sb An nn cn ns Ad nd cd ds As n c Al nl cl At nt ct F k d p q lk sk) := HSC0.out
 clear HSC0
 go_wp2_with fail
 refine (happen_any w.heap.size sb An Ad As Al At nn cn nd cd n c nl cl nt ct ns ds F k p q d lk sk wa HSC1.out HLK.out HSK.out HE.out.symm hdn (by have := HL3.out; omega) (by have := HL5.out; omega)).mono ?_
 rintro e wb ⟨rfl, F', ⟨hgr, As', n', c', Al', nl', cl', At', nt', ct', hbk, hq1, hq2, hq3, hbn⟩, hF'⟩
 obtain ⟨E, hE⟩ : ∃ E, E = evErr ns ds F k d p q := ⟨_, rfl⟩
 rw [← hE] at hF' ⊢
 have HEV := Lib.hid hE
 have HSb := Lib.hid (HS7.out.grown hgr.out HSL.out)
 have g4 := HSb.out.oc.2.2.2; have z4 := HSb.out.oz.2.2.2
 have HS7 := Lib.hid (HSb.out.err E)
 have HSC := Lib.hid (hbk.out.far (p := ⟨w.heap.size + 4, 0, none⟩) (by have := HSL.out; simp; omega) (.int .i64 E))
 have HF := Lib.hid hF'; have HBN := Lib.hid hbn.out
 have HFD0 : Hid (Fd3 (wb.setCell ⟨w.heap.size + 4, 0, none⟩ (.int .i64 E)) As' n' c' Al' nl' cl' At' nt' ct' F') := ⟨(hq1.out.2 (w.heap.size + 4) 0 (.int .i64 E) (by omega) HSL.out).more (by simp), (hq2.out.2 (w.heap.size + 4) 0 (.int .i64 E) (by omega) HSL.out).more (by simp), (hq3.out.2 (w.heap.size + 4) 0 (.int .i64 E) (by omega) HSL.out).more (by simp)⟩
 have HLF : Hid (F'.s.length = n' ∧ F'.ls.length = nl' ∧ F'.st.length = nt') := ⟨hq1.out.1.len (fun _ => rfl) (by decide), hq2.out.1.len (fun _ => rfl) (by decide), hq3.out.1.len (fun _ => rfl) (by decide)⟩
 clear hE hbk hq1 hq2 hq3 hbn hF' hgr HSC1 HSb
 go_upto_region 13 with (fail)
 clear g4 z4
 generalize World.setCell wb _ _ = w7 at *
 have HS7D := Lib.hid (HS7.out.later (Below.refl _ _).drew)
 have HFD := Lib.hid (fd3_later HFD0.out (Below.refl _ _).drew)
 have HSCD := Lib.hid (HSC.out.below (Below.refl _ _).drew HSC.out.lt)
 have HSB4 : Hid (w.heap.size + 5 ≤ w7.drew.heap.size) := HS7D.out.b4.lt
 go_wp2_with fail
 refine wp_only ?_
 refine wp_region_J (S := fun W' => (W'.cell? ⟨sb, 2, none⟩ = some (.slice As' n' c') ∧ W'.cell? ⟨sb, 3, none⟩ = some (.slice Al' nl' cl') ∧ W'.cell? ⟨sb, 4, none⟩ = some (.slice At' nt' ct')) ∧ W'.cell? ⟨w.heap.size + 4, 0, none⟩ = some (.int .i64 E)) (J := [7]) (by kernel_rfl) ?_ (fun hHeld => ?_)
 ·exact ⟨sc_fcells HSC.out, HS7.out.oc.2.2.2⟩
 try dsimp only at hHeld
 refine tk 0 63 (mf 8 1) hHeld ?_
 refine tk 1 64 (mf 8 2) hHeld ?_
 refine tk 2 65 (mf 8 3) hHeld ?_
 refine tk 3 66 (mf 8 4) hHeld ?_
 refine tk 5 68 #[tt, tt, tt, tt, ff, tt, ff, ff] hHeld ?_
 refine wpAnyJ_oneL (k := 4) (mf 8 6) (by kernel_rfl) (by kernel_rfl) rfl (fun K hK => ?_)
 (go_simp; refine (copies_any As' Al' At' n' c' nl' cl' nt' ct' F' w7.drew HFD.out HBN.out.1 HBN.out.2.1 HBN.out.2.2).mono ?_; rintro e w8 ⟨A1, A2, A3, c1, c2, c3, rfl, hO1, hO2, hO3, hb8⟩; go_simp)
 refine hK.out _ _ (fun _ => ?_) (fun hHeld' => ?_)
 ·exact ⟨sc_fcells (HSCD.out.below hb8.out HSCD.out.lt), (HS7D.out.later hb8.out).oc.2.2.2⟩
 replace hHeld := hHeld' rfl
 clear hHeld' hK K
 try dsimp only at hHeld
 have HS8 := Lib.hid (HS7D.out.later hb8.out); have HSC8 := Lib.hid (HSCD.out.below hb8.out HSCD.out.lt); have HO1 := Lib.hid (hO1.out.mono HSB4.out); have HO2 := Lib.hid (World.ownsRow.mono hO2.out HSB4.out); have HO3 := Lib.hid (hO3.out.mono HSB4.out)
 clear hO1 hO2 hO3 hb8
 obtain ⟨d0, d1, d2, -⟩ := HS8.out.oc; obtain ⟨y0, y1, y2, -⟩ := HS8.out.oz
 refine wpAnyJ_oneL (k := 6) (mf 8 7) (by kernel_rfl) (by kernel_rfl) rfl (fun K hK => ?_)
 go_simp
 refine hK.out _ _ (fun _ => ?_) (fun hHeld' => ?_)
 ·exact ⟨sc_fcells (((HSC8.out.far (p := ⟨w.heap.size + 3, 0, none⟩) (by have := HSL.out; simp; omega) _).far (p := ⟨w.heap.size + 3, 1, none⟩) (by have := HSL.out; simp; omega) _).far (p := ⟨w.heap.size + 3, 2, none⟩) (by have := HSL.out; simp; omega) _), (HS8.out.out (.slice A1 n' c1) (.slice A2 nl' c2) (.slice A3 nt' c3)).oc.2.2.2⟩
 replace hHeld := hHeld' rfl
 clear hHeld' hK K
 try dsimp only at hHeld
 have HS9 := Lib.hid (HS8.out.out (.slice A1 n' c1) (.slice A2 nl' c2) (.slice A3 nt' c3))
 have HP1 := Lib.hid (own_far (x := w.heap.size + 3) (i := 2) (u := .slice A3 nt' c3) (own_far (x := w.heap.size + 3) (i := 1) (u := .slice A2 nl' c2) (own_far (x := w.heap.size + 3) (i := 0) (u := .slice A1 n' c1) HO1.out (by omega)) (by omega)) (by omega))
 have HP2 := Lib.hid (own_far (x := w.heap.size + 3) (i := 2) (u := .slice A3 nt' c3) (own_far (x := w.heap.size + 3) (i := 1) (u := .slice A2 nl' c2) (own_far (x := w.heap.size + 3) (i := 0) (u := .slice A1 n' c1) HO2.out (by omega)) (by omega)) (by omega))
 have HP3 := Lib.hid (own_far (x := w.heap.size + 3) (i := 2) (u := .slice A3 nt' c3) (own_far (x := w.heap.size + 3) (i := 1) (u := .slice A2 nl' c2) (own_far (x := w.heap.size + 3) (i := 0) (u := .slice A1 n' c1) HO3.out (by omega)) (by omega)) (by omega))
 clear d0 d1 d2 y0 y1 y2
 generalize World.setCell (World.setCell (World.setCell w8 _ _) _ _) _ _ = w9 at *
 have g9 := HS9.out.oc.2.2.2; have z9 := HS9.out.oz.2.2.2
 refine wpAnyJ_oneL (k := 7) (mf 8 8) (by kernel_rfl) (by kernel_rfl) rfl (fun K hK => ?_)
 go_simp
 refine hK.out _ _ (fun h => by cases h) (fun _ => ?_)
 try clear hHeld
 clear hK K
 refine wpAnyJ_done (by kernel_rfl) ?_ _
 refine onlyN.intro ?_
 have HS10 := Lib.hid (HS9.out.err E)
 have HR1 := Lib.hid (own_far (x := w.heap.size + 4) (i := 0) (u := .int .i64 E) HP1.out (by omega))
 have HR2 := Lib.hid (own_far (x := w.heap.size + 4) (i := 0) (u := .int .i64 E) HP2.out (by omega))
 have HR3 := Lib.hid (own_far (x := w.heap.size + 4) (i := 0) (u := .int .i64 E) HP3.out (by omega))
 go_wp2_with fail
 generalize World.setCell w9 _ _ = wy at *
 clear g9 z9 HP1 HP2 HP3 HS9
 by_cases hEz : E = 0
 ·subst hEz
  refine leaves_cons (f := 43) (args := #[.pointer (some ⟨w.heap.size + 4, 0, none⟩), .pointer (some ⟨w.heap.size + 3, 0, none⟩)]) (by simp) (by simp [go_sem]) ?_
  refine (step1_ok (w.heap.size + 4) (w.heap.size + 3) _ _ HS10.out.oc.2.2.2).mono ?_
  rintro e u' w'' ⟨rfl, rfl, rfl⟩
  obtain ⟨t0, t1, t2, t3⟩ := HS10.out.oc
  have hFe := HF.out rfl
  subst hFe
  exact ⟨.tuple #[.agg #[.slice A1 n' c1, .slice A2 nl' c2, .slice A3 nt' c3], .int .i64 0], by simp [results, Tryz.results15, go_sem, t0, t1, t2, t3], .inr ⟨by rw [HR.out, ← HEV.out], A1, A2, A3, n', c1, nl', c2, nt', c3, rfl, HR1.out.mono (by omega), World.ownsRow.mono HR2.out (by omega), HR3.out.mono (by omega)⟩, HS10.out.bl⟩
 ·have HRE : Hid (stpErr ns ds F k d p q = E) := by unfold Hid; rw [HR.out, HEV.out]
  have HR := HRE
  have HNZ := Lib.hid hEz
  clear hEz
  refine leaves_cons (f := 43) (args := #[.pointer (some ⟨w.heap.size + 4, 0, none⟩), .pointer (some ⟨w.heap.size + 3, 0, none⟩)]) (by simp) (by simp [go_sem]) ?_
  refine (step1_err (w.heap.size + 4) (w.heap.size + 3) _ _ _ _ _ _ (HNZ.out) HS10.out.oc.2.2.2 HS10.out.oc.1 HS10.out.oc.2.1 HS10.out.oc.2.2.1 HS10.out.oz.1 HS10.out.oz.2.1 HS10.out.oz.2.2.1).mono ?_
  rintro e u' w'' ⟨rfl, rfl, rfl⟩
  have HSZ := Lib.hid (HS10.out.out (.slice none 0 0) (.slice none 0 0) (.slice none 0 0))
  generalize World.setCell (World.setCell (World.setCell _ _ _) _ _) _ _ = wz at *
  obtain ⟨t0, t1, t2, t3⟩ := HSZ.out.oc
  refine ⟨.tuple #[.agg #[.slice none 0 0, .slice none 0 0, .slice none 0 0], .int .i64 E], by simp [results, Tryz.results15, go_sem, t0, t1, t2, t3], .inl ⟨by rw [HR.out]; exact HNZ.out, by rw [HR.out]⟩, HSZ.out.bl⟩
end Go.Proofs.YtepicjpdhpojnaaGreatDoor
namespace Go.Proofs.YtepicjpdhpojnaaGreatDoor
open Go.RowKit
end Go.Proofs.YtepicjpdhpojnaaGreatDoor
namespace Go.Proofs.YtepicjpdhpojnaaGreatDoor
open Go.RowKit
def HaR (w : World) (l : List Int) (x : Int) (n gk : Nat) (iv : Value) (wr : World) : Prop := ∃ i : Nat, iv = .int .i64 i ∧ i ≤ n ∧ gk = n - i ∧ wr = w ∧ Hid (∀ k, k < i → l[k]? ≠ some x)
theorem rhas_any (A : Option Addr) (n c : Nat) (l : List Int) (x : Int) (w : World) (hs : Sl w w.heap.size 1 A n c (intsV l)) :
 Calls Tryz.prog 24 #[.slice A n c, .int .i64 x] w fun e w' => e = .returned (.bool (decide (x ∈ l))) ∧ w = w' := by
 have hnm := hs.le
 have HS := Lib.hid hs
 have HLN := Lib.hid (hs.len (fun _ => rfl) (by decide))
 clear hs
 go_enter Tryz.func24, Tryz.ntmps24
 go_wp2_with fail
 go_loopg [5] n (HaR w l x n)
 case atStart => exact ⟨0, rfl, Nat.zero_le _, rfl, rfl, fun k hk => absurd hk (by omega)⟩
 case round =>
  obtain ⟨i, rfl, hi, rfl, rfl, hno⟩ := hrel
  by_cases hlt : i < n
  ·obtain ⟨b, off, y, rfl, hb, hy, hc⟩ := HS.out.at1 hlt
   have HY := Lib.hid hy
   clear hy
   by_cases hxy : y = x
   ·have q : (y == x) = true := by simpa using hxy
    have HR : Hid (decide (x ∈ l) = true) := by
     unfold Hid
     rw [decide_eq_true_eq, ← hxy]
     exact List.mem_of_getElem? HY.out
    clear hxy
    go_wp2_with fail
    go_ret
    exact ⟨ret_bool HR.out.symm, rfl⟩
   ·have q : (y == x) = false := by simpa using hxy
    have HN : Hid (∀ k, k < i + 1 → l[k]? ≠ some x) := fun k hk e => by
     rcases Nat.lt_succ_iff_lt_or_eq.1 hk with h | rfl
     ·exact hno.out k h e
     ·rw [HY.out] at e; injection e with e; exact hxy e
    clear hxy
    go_wp2_with fail
    go_roundg (n - (i + 1))
    case rel => exact ⟨i + 1, by go_num, by omega, rfl, rfl, HN⟩
    case measure => omega
  ·obtain rfl : i = n := by omega
   have hii : decide (i < i) = false := by simp
   have HR : Hid (decide (x ∈ l) = false) := by
    unfold Hid
    rw [decide_eq_false_iff_not]
    intro hm
    obtain ⟨k, hk⟩ := List.mem_iff_getElem?.1 hm
    exact hno.out k (by have := (List.getElem?_eq_some_iff.1 hk).1; rw [HLN.out] at this; exact this) hk
   go_wp2_with fail
   go_ret
   exact ⟨ret_bool HR.out.symm, rfl⟩
end Go.Proofs.YtepicjpdhpojnaaGreatDoor
