import Derived.Test.YtfaknfmndafllaaGreatDoorV32
set_option maxRecDepth 100000
set_option maxHeartbeats 16000000
namespace Go.Proofs.YtfaknfmndafllaaGreatDoor
open Go.RowKit
theorem hasB_dec (l : List Int) (x : Int) : hasB l x = decide (x ∈ l) := by rw [Bool.eq_iff_iff, hasB_iff]; simp
structure RhQ (w : World) (nt op gr dv out : Array Value) (W : World) : Prop where
 bx : Bx3 w nt op gr W
 br : Blk W (w.heap.size + 3) 135 #[.bool false, .bool false, .bool false, .bool false, .bool false, .bool false, .bool false, .bool false, .bool false]
 bo : Blk W (w.heap.size + 4) 135 out
 bd : Blk W (w.heap.size + 5) 68 dv
section
variable {w W W' : World} {nt op gr dv out : Array Value}
theorem RhQ.later (h : RhQ w nt op gr dv out W) (hb : Below W.heap.size W W') : RhQ w nt op gr dv out W' := ⟨h.bx.later hb, h.br.below hb h.br.lt, h.bo.below hb h.bo.lt, h.bd.below hb h.bd.lt⟩
theorem Bx3.far (h : Bx3 w nt op gr W) {p : Addr} (hp : w.heap.size + 3 ≤ p.block) (u : Value) : Bx3 w nt op gr (W.setCell p u) := ⟨h.bl.setCell (by omega) u, h.bn.far (by omega) u, h.bo.far (by omega) u, h.bg.far (by omega) u⟩
theorem RhQ.set (h : RhQ w nt op gr dv out W) (j : Nat) (u : Value) : RhQ w nt op gr dv (out.setIfInBounds j u) (W.setCell ⟨w.heap.size + 4, j, none⟩ u) := ⟨h.bx.far (by simp) u, h.br.far (by simp) u, h.bo.set j u, h.bd.far (by simp) u⟩
theorem RhQ.drew (h : RhQ w nt op gr dv out W) : RhQ w nt op gr dv out W.drew := h.later (Below.refl _ _).drew
end
theorem rhz_any (An Ad As Al Ap : Option Addr) (nn cn nd cd n c nl cl np cp i : Nat) (ns : List Nd) (ds : List Dv) (s : List Int) (ls : List Lk) (pr : List Int) (p co : Int) (x : Dv) (w : World) (h : HzMem w An Ad As Al Ap nn cn nd cd n c nl cl np cp ns ds s ls pr) (h0 : stateErr ns ds s = 0) (hx : ds[i]? = some x) (hp : p = 1 ∨ p = 2) :
 Calls Tryz.prog 81 #[.agg #[.slice An nn cn, .slice Ad nd cd], .slice As n c, .agg #[.int .i64 i, .int .i64 p], .agg #[.int .i64 co, .slice Al nl cl, .slice Ap np cp]] w fun e w' => e = .returned (.agg (boolsV (hzF nn ns ds s i p co ls pr x)).toArray) ∧ Below w.heap.size w w' := by
 obtain ⟨hln, hld, hls⟩ := h.ln
 subst hln
 have hN := NetOk.of (stateErr_net h0).1
 have hsl := (stateErr_net h0).2
 have hxm := List.mem_of_getElem? hx
 have ha0 := hN.a x hxm
 have hi : i < nd := by have := (List.getElem?_eq_some_iff.1 hx).1; omega
 have hnl := hN.nl
 have hdl := hN.dl
 have HN := Lib.hid hN
 have HLS := Lib.hid hls
 have hndn : nd ≤ n ∧ n ≤ nd := by omega
 have hin : i < n := by omega
 have hdlen : nd ≤ ds.length ∧ ds.length ≤ nd := by omega
 have HW0 := Lib.hid (Bx3.new w #[.slice An ns.length cn, .slice Ad nd cd] #[.int .i64 i, .int .i64 p] #[.int .i64 co, .slice Al nl cl, .slice Ap np cp])
 have hz3 : (((w.alloc (.cells #[.slice An ns.length cn, .slice Ad nd cd] 30)).alloc (.cells #[.int .i64 i, .int .i64 p] 62)).alloc (.cells #[.int .i64 co, .slice Al nl cl, .slice Ap np cp] 40)).heap.size = w.heap.size + 3 := by simp
 generalize hW3 : ((w.alloc (.cells #[.slice An ns.length cn, .slice Ad nd cd] 30)).alloc (.cells #[.int .i64 i, .int .i64 p] 62)).alloc (.cells #[.int .i64 co, .slice Al nl cl, .slice Ap np cp] 40) = W3 at *
 have HBR := Lib.hid ((Blk.new W3 135 #[.bool false, .bool false, .bool false, .bool false, .bool false, .bool false, .bool false, .bool false, .bool false]).alloc (.cells #[.bool false, .bool false, .bool false, .bool false, .bool false, .bool false, .bool false, .bool false, .bool false] 135))
 have HBO := Lib.hid (Blk.new (W3.alloc (.cells #[.bool false, .bool false, .bool false, .bool false, .bool false, .bool false, .bool false, .bool false, .bool false] 135)) 135 #[.bool false, .bool false, .bool false, .bool false, .bool false, .bool false, .bool false, .bool false, .bool false])
 rw [World.size_alloc, hz3] at HBO
 rw [hz3] at HBR
 have HBX := Lib.hid (HW0.out.later (((Below.refl _ _).alloc (Nat.le_refl _) (.cells #[.bool false, .bool false, .bool false, .bool false, .bool false, .bool false, .bool false, .bool false, .bool false] 135)).alloc (by simp) (.cells #[.bool false, .bool false, .bool false, .bool false, .bool false, .bool false, .bool false, .bool false, .bool false] 135)))
 have hz5 : ((W3.alloc (.cells #[.bool false, .bool false, .bool false, .bool false, .bool false, .bool false, .bool false, .bool false, .bool false] 135)).alloc (.cells #[.bool false, .bool false, .bool false, .bool false, .bool false, .bool false, .bool false, .bool false, .bool false] 135)).heap.size = w.heap.size + 5 := by simp; omega
 subst hW3
 have HH := Lib.hid h
 have HX := Lib.hid hx
 have H0 := Lib.hid h0
 clear h hN hxm hx h0 hsl hls HW0 hz3
 go_enter Tryz.func81, Tryz.ntmps81
 go_upto_region 2 with (fail)
 generalize World.alloc (World.alloc (World.alloc (World.alloc (World.alloc w _) _) _) _) _ = W at *
 obtain ⟨b0, off, x', rfl, hb, hx', hc⟩ := (HH.out.below HBX.out.bl).hd.at (k := i) (fun _ => rfl) (by decide) hi
 obtain rfl : x = x' := by have := HX.out; rw [this] at hx'; exact Option.some.inj hx'
 have HF : Hid (∀ s, hzF ns.length ns ds s i p co ls pr x = if s.getD i 0 = p then [false, false, false, false, lockB ls i, false, x.comp != co, true, false] else [false, decide (p = 2) && decide (dutyAt ns.length ns ds s i x = 4), badB x.kind p (dutyAt ns.length ns ds s i x) (lvE (colsOf ns.length ds s) x), lostB ns ds s (withL s i p), lockB ls i, decide (p = 2) && decide (x.kind = 4) && !hasB pr x.a, x.comp != co, false, false]) := fun _ => rfl
 obtain ⟨nm, kd, a, b, xco⟩ := x
 simp only at ha0 HF
 obtain ⟨a, rfl⟩ := Int.eq_ofNat_of_zero_le ha0.1
 have c0 : W.cell? ⟨b0, off + i * 5, none⟩ = some (.string nm) := hc 0 _ rfl
 have c1 : W.cell? ⟨b0, off + i * 5 + 1, none⟩ = some (.int .i64 kd) := hc 1 _ rfl
 have c2 : W.cell? ⟨b0, off + i * 5 + 2, none⟩ = some (.int .i64 a) := hc 2 _ rfl
 have c3 : W.cell? ⟨b0, off + i * 5 + 3, none⟩ = some (.int .i64 b) := hc 3 _ rfl
 have c4 : W.cell? ⟨b0, off + i * 5 + 4, none⟩ = some (.int .i64 xco) := hc 4 _ rfl
 have k1 := HBX.out.bn.c1
 have o0 := HBX.out.bo.c0
 clear hc hx' hb
 go_upto_region 3 with (fail)
 clear c0 c1 c2 c3 c4 k1 o0
 have HQ2 : Hid (RhQ w #[.slice An ns.length cn, .slice (some ⟨b0, off, none⟩) nd cd] #[.int .i64 i, .int .i64 p] #[.int .i64 co, .slice Al nl cl, .slice Ap np cp] #[.string nm, .int .i64 kd, .int .i64 a, .int .i64 b, .int .i64 xco] #[.bool false, .bool false, .bool false, .bool false, .bool false, .bool false, .bool false, .bool false, .bool false] (W.alloc (.cells #[.string nm, .int .i64 kd, .int .i64 a, .int .i64 b, .int .i64 xco] 68))) := ⟨HBX.out.later ((Below.refl _ _).alloc (Nat.le_refl _) _), HBR.out.alloc _, HBO.out.alloc _, by have := Blk.new W 68 #[.string nm, .int .i64 kd, .int .i64 a, .int .i64 b, .int .i64 xco]; rw [hz5] at this; exact this⟩
 try rw [hz5]
 clear HBX HBR HBO
 generalize World.alloc W _ = w2 at *
 clear hz5
 obtain ⟨Ad, hAd⟩ : ∃ Ad, Ad = some (⟨b0, off, none⟩ : Addr) := ⟨_, rfl⟩
 rw [← hAd] at HQ2 HH
 clear hAd W
 have HM2 := Lib.hid (HH.out.below HQ2.out.bx.bl)
 have o0 := HQ2.out.bx.bo.c0
 have o1 := HQ2.out.bx.bo.c1
 have g0 := HQ2.out.bx.bg.c0
 have g1 := HQ2.out.bx.bg.c1
 have g2 := HQ2.out.bx.bg.c2
 go_wp2_with fail
 clear o0 o1 g0 g1 g2
 refine (hlocked_any Al Ap nl cl np cp ls co i w2 HM2.out.hl).mono ?_
 rintro e w3 ⟨rfl, hb3⟩
 have HQ3 := Lib.hid (HQ2.out.later hb3)
 have HM3 := Lib.hid (HM2.out.below hb3)
 clear HQ2 HM2 hb3
 have g0 := HQ3.out.bx.bg.c0
 have g1 := HQ3.out.bx.bg.c1
 have g2 := HQ3.out.bx.bg.c2
 have d1 := HQ3.out.bd.cell 1
 have d2 := HQ3.out.bd.cell 2
 have d4 := HQ3.out.bd.cell 4
 have e4 := HQ3.out.bo.cell 4
 have y4 := HQ3.out.bo.frozen 4
 have e6 := HQ3.out.bo.cell 6
 have y6 := HQ3.out.bo.frozen 6
 have HQ4 : Hid (RhQ w #[.slice An ns.length cn, .slice Ad nd cd] #[.int .i64 i, .int .i64 p] #[.int .i64 co, .slice Al nl cl, .slice Ap np cp] #[.string nm, .int .i64 kd, .int .i64 a, .int .i64 b, .int .i64 xco] #[.bool false, .bool false, .bool false, .bool false, .bool (lockB ls i), .bool false, .bool false, .bool false, .bool false] _) := HQ3.out.set 4 (.bool (lockB ls i))
 have HQ6 : Hid (RhQ w #[.slice An ns.length cn, .slice Ad nd cd] #[.int .i64 i, .int .i64 p] #[.int .i64 co, .slice Al nl cl, .slice Ap np cp] #[.string nm, .int .i64 kd, .int .i64 a, .int .i64 b, .int .i64 xco] #[.bool false, .bool false, .bool false, .bool false, .bool (lockB ls i), .bool false, .bool (xco != co), .bool false, .bool false] _) := HQ4.out.set 6 (.bool (xco != co))
 go_upto_region 5 with (fail)
 clear g0 g1 g2 d1 d2 d4 e4 y4 e6 y6 HQ3 HQ4
 generalize World.setCell (World.setCell w3 _ _) _ _ = w6 at *
 have HM6 := Lib.hid (HH.out.below HQ6.out.bx.bl)
 obtain ⟨bs, os, sv, hAs, hbs, hsv, hcs⟩ := HM6.out.hs.at1 (k := i) (by omega)
 have HGS := Lib.hid (getD_of hsv)
 have HPC : Hid (w6.cell? ⟨bs, os + i, none⟩ = some (.int .i64 sv)) := hcs
 subst hAs
 clear hcs hsv hbs
 refine wp_region_J (S := fun W' => (W'.cell? ⟨w.heap.size + 1, 0, none⟩ = some (.int .i64 i) ∧ W'.cell? ⟨w.heap.size + 1, 1, none⟩ = some (.int .i64 p)) ∧ W'.cell? ⟨bs, os + i, none⟩ = some (.int .i64 sv)) (J := []) (by kernel_rfl) ?_ (fun hHeld => ?_)
 ·exact ⟨⟨HQ6.out.bx.bo.cell 0, HQ6.out.bx.bo.cell 1⟩, HPC.out⟩
 try dsimp only at hHeld
 refine tk 0 33 (mf 8 1) hHeld ?_
 refine tk 1 34 (mf 8 2) hHeld ?_
 refine tk 5 38 #[tt, tt, ff, ff, ff, tt, ff, ff] hHeld ?_
 refine wpAnyJ_takeL (i := 2) (d := some 35) (v := ?_) #[tt, tt, tt, ff, ff, tt, ff, ff] (by kernel_rfl) rfl rfl (by kernel_rfl) (by kernel_rfl) (by kernel_rfl) (by kernel_rfl) (by kernel_rfl) (fun _ _ _ h => h) (Or.inl ⟨by rfl, ?_⟩) hHeld ?_
 rotate_left
 ·(intro w hSw; (try dsimp only at hSw); have o0 := hSw.1.1; go_simp; try with_reducible rfl)
 try simp only [Act.put, sA, sB, sC]
 refine wpAnyJ_takeL (i := 6) (d := some 39) (v := ?_) #[tt, tt, tt, ff, ff, tt, tt, ff] (by kernel_rfl) rfl rfl (by kernel_rfl) (by kernel_rfl) (by kernel_rfl) (by kernel_rfl) (by kernel_rfl) (fun _ _ _ h => h) (Or.inl ⟨by rfl, ?_⟩) hHeld ?_
 rotate_left
 ·(intro w hSw; (try dsimp only at hSw); have o1 := hSw.1.2; go_simp; try with_reducible rfl)
 try simp only [Act.put, sA, sB, sC]
 refine tk 3 36 #[tt, tt, tt, tt, ff, tt, tt, ff] hHeld ?_
 refine wpAnyJ_takeL (i := 4) (d := some 37) (v := ?_) (mf 8 7) (by kernel_rfl) rfl rfl (by kernel_rfl) (by kernel_rfl) (by kernel_rfl) (by kernel_rfl) (by kernel_rfl) (fun _ _ _ h => h) (Or.inl ⟨by rfl, ?_⟩) hHeld ?_
 rotate_left
 ·(intro w hSw; (try dsimp only at hSw); have ss := hSw.2; go_simp; try with_reducible rfl)
 try simp only [Act.put, sA, sB, sC]
 refine tk 7 40 (mf 8 8) hHeld ?_
 refine wpAnyJ_done (by kernel_rfl) ?_ _
 have HQ7 := Lib.hid HQ6.out.drew
 clear HQ6 HM6 HPC HM3
 generalize World.drew w6 = w7 at *
 have HM7 := Lib.hid (HH.out.below HQ7.out.bx.bl)
 by_cases hq : sv = p
 ·have q : (sv == p) = true := by simpa using hq
  have e7 := HQ7.out.bo.cell 7
  have y7 := HQ7.out.bo.frozen 7
  have HQ8 : Hid (RhQ w #[.slice An ns.length cn, .slice Ad nd cd] #[.int .i64 i, .int .i64 p] #[.int .i64 co, .slice Al nl cl, .slice Ap np cp] #[.string nm, .int .i64 kd, .int .i64 a, .int .i64 b, .int .i64 xco] #[.bool false, .bool false, .bool false, .bool false, .bool (lockB ls i), .bool false, .bool (xco != co), .bool true, .bool false] _) := HQ7.out.set 7 (.bool (true))
  go_upto_region 7 with (fail)
  clear e7 y7 HQ7 HM7
  generalize World.setCell w7 _ _ = w8 at *
  have e0 := HQ8.out.bo.cell 0
  have r0 := HQ8.out.br.cell 0
  have y0 := HQ8.out.br.frozen 0
  have e1 := HQ8.out.bo.cell 1
  have r1 := HQ8.out.br.cell 1
  have y1 := HQ8.out.br.frozen 1
  have e2 := HQ8.out.bo.cell 2
  have r2 := HQ8.out.br.cell 2
  have y2 := HQ8.out.br.frozen 2
  have e3 := HQ8.out.bo.cell 3
  have r3 := HQ8.out.br.cell 3
  have y3 := HQ8.out.br.frozen 3
  have e4 := HQ8.out.bo.cell 4
  have r4 := HQ8.out.br.cell 4
  have y4 := HQ8.out.br.frozen 4
  have e5 := HQ8.out.bo.cell 5
  have r5 := HQ8.out.br.cell 5
  have y5 := HQ8.out.br.frozen 5
  have e6 := HQ8.out.bo.cell 6
  have r6 := HQ8.out.br.cell 6
  have y6 := HQ8.out.br.frozen 6
  have e7 := HQ8.out.bo.cell 7
  have r7 := HQ8.out.br.cell 7
  have y7 := HQ8.out.br.frozen 7
  have e8 := HQ8.out.bo.cell 8
  have r8 := HQ8.out.br.cell 8
  have y8 := HQ8.out.br.frozen 8
  have HX : Hid (Below w.heap.size w (((((((((w8.setCell ⟨w.heap.size + 3, 0, none⟩ (.bool (false))).setCell ⟨w.heap.size + 3, 1, none⟩ (.bool (false))).setCell ⟨w.heap.size + 3, 2, none⟩ (.bool (false))).setCell ⟨w.heap.size + 3, 3, none⟩ (.bool (false))).setCell ⟨w.heap.size + 3, 4, none⟩ (.bool (lockB ls i))).setCell ⟨w.heap.size + 3, 5, none⟩ (.bool (false))).setCell ⟨w.heap.size + 3, 6, none⟩ (.bool (xco != co))).setCell ⟨w.heap.size + 3, 7, none⟩ (.bool (true))).setCell ⟨w.heap.size + 3, 8, none⟩ (.bool (false)))) := (((((((((HQ8.out.bx.bl.setCell (p := ⟨w.heap.size + 3, 0, none⟩) (by simp) (.bool (false))).setCell (p := ⟨w.heap.size + 3, 1, none⟩) (by simp) (.bool (false))).setCell (p := ⟨w.heap.size + 3, 2, none⟩) (by simp) (.bool (false))).setCell (p := ⟨w.heap.size + 3, 3, none⟩) (by simp) (.bool (false))).setCell (p := ⟨w.heap.size + 3, 4, none⟩) (by simp) (.bool (lockB ls i))).setCell (p := ⟨w.heap.size + 3, 5, none⟩) (by simp) (.bool (false))).setCell (p := ⟨w.heap.size + 3, 6, none⟩) (by simp) (.bool (xco != co))).setCell (p := ⟨w.heap.size + 3, 7, none⟩) (by simp) (.bool (true))).setCell (p := ⟨w.heap.size + 3, 8, none⟩) (by simp) (.bool (false)))
  have HR : Hid (hzF ns.length ns ds s i p co ls pr ⟨nm, kd, a, b, xco⟩ = [false, false, false, false, lockB ls i, false, xco != co, true, false]) := by
   unfold Hid
   rw [HF.out s, if_pos (by rw [HGS.out]; exact hq)]
  generalize (lockB ls i) = v4 at *
  generalize (xco != co) = v6 at *
  go_wp2_with fail
  exact bodyPost_ret (v := .agg #[.bool false, .bool false, .bool false, .bool false, .bool v4, .bool false, .bool v6, .bool true, .bool false]) (by simp [results, Tryz.results81, go_sem, r0, r1, r2, r3, r4, r5, r6, r7, r8]) rfl ⟨by rw [HR.out]; rfl, HX.out⟩
 have q : (sv == p) = false := by simpa using hq
 have HNF : Hid (¬ s.getD i 0 = p) := by rw [HGS.out]; exact hq
 clear hq
 obtain ⟨As, hAs⟩ : ∃ As, As = some (⟨bs, os, none⟩ : Addr) := ⟨_, rfl⟩
 rw [← hAs] at HM7 HH ⊢
 clear hAs
 have k0 := HQ7.out.bx.bn.c0
 have k1 := HQ7.out.bx.bn.c1
 have o0 := HQ7.out.bx.bo.c0
 have o1 := HQ7.out.bx.bo.c1
 go_wp2_with fail
 clear k0 k1 o0 o1 q
 refine (rOf_ok An Ad As ns.length cn nd cd n c i ns ds s _ w7 ⟨HM7.out.hn, HM7.out.hd, HM7.out.hs, Sl.nil _ _ _, Sl.nil _ _ _, HM7.out.la, HM7.out.sn, HM7.out.sd⟩ H0.out HX.out).mono ?_
 rintro e w8 ⟨rfl, hb8⟩
 have HQ8 := Lib.hid (HQ7.out.later hb8)
 have HM8 := Lib.hid (HM7.out.below hb8)
 have HBA := Lib.hid (rbad_any An Ad As ns.length cn nd cd n c i ns ds s p ⟨nm, kd, a, b, xco⟩)
 obtain ⟨du, hdu⟩ : ∃ du, du = dutyAt ns.length ns ds s i ⟨nm, kd, a, b, xco⟩ := ⟨_, rfl⟩
 rw [← hdu] at HBA ⊢
 have HDE := Lib.hid hdu
 clear hb8 HQ7 HM7 hdu
 have o0 := HQ8.out.bx.bo.c0
 have o1 := HQ8.out.bx.bo.c1
 have e1 := HQ8.out.bo.cell 1
 have y1 := HQ8.out.bo.frozen 1
 have HQ9 : Hid (RhQ w #[.slice An ns.length cn, .slice Ad nd cd] #[.int .i64 i, .int .i64 p] #[.int .i64 co, .slice Al nl cl, .slice Ap np cp] #[.string nm, .int .i64 kd, .int .i64 a, .int .i64 b, .int .i64 xco] #[.bool false, .bool (decide (p = 2) && decide (du = 4)), .bool false, .bool false, .bool (lockB ls i), .bool false, .bool (xco != co), .bool false, .bool false] _) := HQ8.out.set 1 (.bool (decide (p = 2) && decide (du = 4)))
 rcases hp with rfl | rfl
 ·have HV1 : Hid ((decide ((1 : Int) = 2) && decide (du = 4)) = false) := rfl
  rw [HV1.out] at HQ9
  go_upto_region 10 with (fail)
  clear o0 o1 e1 y1 HQ8
  generalize World.setCell w8 _ _ = w9 at *
  have HM9 := Lib.hid (HH.out.below HQ9.out.bx.bl)
  have k0 := HQ9.out.bx.bn.c0
  have k1 := HQ9.out.bx.bn.c1
  have o0 := HQ9.out.bx.bo.c0
  have o1 := HQ9.out.bx.bo.c1
  go_wp2_with fail
  clear k0 k1 o0 o1 HM8
  refine (HBA.out w9 ⟨HM9.out.hn, HM9.out.hd, HM9.out.hs, Sl.nil _ _ _, Sl.nil _ _ _, HM9.out.la, HM9.out.sn, HM9.out.sd⟩ H0.out HX.out (by simp)).mono ?_
  rintro e w10 ⟨rfl, hb10⟩
  have HQ10 := Lib.hid (HQ9.out.later hb10)
  clear hb10 HQ9 HM9 HBA
  have e2 := HQ10.out.bo.cell 2
  have y2 := HQ10.out.bo.frozen 2
  have HQ11 : Hid (RhQ w #[.slice An ns.length cn, .slice Ad nd cd] #[.int .i64 i, .int .i64 1] #[.int .i64 co, .slice Al nl cl, .slice Ap np cp] #[.string nm, .int .i64 kd, .int .i64 a, .int .i64 b, .int .i64 xco] #[.bool false, .bool false, .bool (badB kd 1 du (lvE (colsOf ns.length ds s) ⟨nm, kd, a, b, xco⟩)), .bool false, .bool (lockB ls i), .bool false, .bool (xco != co), .bool false, .bool false] _) := HQ10.out.set 2 (.bool (badB kd 1 du (lvE (colsOf ns.length ds s) ⟨nm, kd, a, b, xco⟩)))
  go_upto_region 11 with (fail)
  clear e2 y2 HQ10
  generalize World.setCell w10 _ _ = w11 at *
  have HQ12 := Lib.hid HQ11.out.drew
  have HM12 := Lib.hid (HH.out.below HQ12.out.bx.bl)
  clear HQ11
  refine wp_region_J (S := fun W' => ((W'.cell? ⟨w.heap.size, 0, none⟩ = some (.slice An ns.length cn) ∧ W'.cell? ⟨w.heap.size, 1, none⟩ = some (.slice Ad nd cd)) ∧ W'.cell? ⟨w.heap.size + 1, 0, none⟩ = some (.int .i64 i)) ∧ W'.cell? ⟨w.heap.size + 1, 1, none⟩ = some (.int .i64 1)) (J := []) (by kernel_rfl) ?_ (fun hHeld => ?_)
  ·exact ⟨⟨⟨HQ12.out.bx.bn.cell 0, HQ12.out.bx.bn.cell 1⟩, HQ12.out.bx.bo.cell 0⟩, HQ12.out.bx.bo.cell 1⟩
  try dsimp only at hHeld
  refine tk 1 66 #[ff, tt, ff, ff, ff, ff, ff, ff, ff, ff, ff, ff, ff, ff, ff, ff] hHeld ?_
  refine tk 2 67 #[ff, tt, tt, ff, ff, ff, ff, ff, ff, ff, ff, ff, ff, ff, ff, ff] hHeld ?_
  refine tk 3 68 #[ff, tt, tt, tt, ff, ff, ff, ff, ff, ff, ff, ff, ff, ff, ff, ff] hHeld ?_
  refine tk 5 70 #[ff, tt, tt, tt, ff, tt, ff, ff, ff, ff, ff, ff, ff, ff, ff, ff] hHeld ?_
  refine wpAnyJ_takeL (i := 0) (d := some 65) (v := ?_) #[tt, tt, tt, tt, ff, tt, ff, ff, ff, ff, ff, ff, ff, ff, ff, ff] (by kernel_rfl) rfl rfl (by kernel_rfl) (by kernel_rfl) (by kernel_rfl) (by kernel_rfl) (by kernel_rfl) (fun _ _ _ h => h) (Or.inl ⟨by rfl, ?_⟩) hHeld ?_
  rotate_left
  ·(intro w hSw; (try dsimp only at hSw); have k0 := hSw.1.1.1; have k1 := hSw.1.1.2; go_simp; try with_reducible rfl)
  try simp only [Act.put, sA, sB, sC]
  refine wpAnyJ_takeL (i := 4) (d := some 69) (v := ?_) (mf 16 6) (by kernel_rfl) rfl rfl (by kernel_rfl) (by kernel_rfl) (by kernel_rfl) (by kernel_rfl) (by kernel_rfl) (fun _ _ _ h => h) (Or.inl ⟨by rfl, ?_⟩) hHeld ?_
  rotate_left
  ·(intro w hSw; (try dsimp only at hSw); have o0 := hSw.1.2; go_simp; try with_reducible rfl)
  try simp only [Act.put, sA, sB, sC]
  refine wpAnyJ_takeL (i := 6) (d := some 71) (v := ?_) (mf 16 7) (by kernel_rfl) rfl rfl (by kernel_rfl) (by kernel_rfl) (by kernel_rfl) (by kernel_rfl) (by kernel_rfl) (fun _ _ _ h => h) (Or.inl ⟨by rfl, ?_⟩) hHeld ?_
  rotate_left
  ·(intro w hSw; (try dsimp only at hSw); have o1 := hSw.2; go_simp; try with_reducible rfl)
  try simp only [Act.put, sA, sB, sC]
  refine wpAnyJ_oneL (k := 7) (mf 16 8) (by kernel_rfl) (by kernel_rfl) rfl (fun K hK => ?_)
  (go_simp; refine (rwith_any As n c w11.drew.heap.size s i 1 w11.drew HM12.out.hs (Nat.le_refl _) (by omega)).mono ?_; rintro e w13 ⟨Aw, cw, rfl, hOw, hb13⟩; rw [withL_len, HLS.out] at hOw ⊢; have HQ13 := Lib.hid (HQ12.out.later hb13.out); have HM13 := Lib.hid (HM12.out.below hb13.out); have HSW : Hid (Sl w13 w13.heap.size 1 Aw n cw (intsV (withL s i 1))) := hOw.out.sl; clear hOw hb13 HQ12 HM12; go_simp)
  refine hK.out _ _ (fun _ => ?_) (fun hHeld' => ?_)
  ·exact ⟨⟨⟨HQ13.out.bx.bn.cell 0, HQ13.out.bx.bn.cell 1⟩, HQ13.out.bx.bo.cell 0⟩, HQ13.out.bx.bo.cell 1⟩
  replace hHeld := hHeld' rfl
  clear hHeld' hK K
  try dsimp only at hHeld
  refine wpAnyJ_oneL (k := 8) (mf 16 9) (by kernel_rfl) (by kernel_rfl) rfl (fun K hK => ?_)
  (go_simp; refine (rlost_any An Ad As Aw ns.length cn nd cd n c n cw ns ds s (withL s i 1) w13 HM13.out.hn HM13.out.hd HM13.out.hs HSW.out HM13.out.sn HM13.out.sd (by omega) H0.out (stateErr_with H0.out i (by simp)) (by omega) (by omega) ⟨HN.out.e, HN.out.ne⟩ ⟨HN.out.a, HN.out.k⟩).mono ?_; rintro e w14 ⟨Ao, mo, coo, lo, ko, rfl, hlo1, hlo2, hlo3, hb14⟩; have HQ14 := Lib.hid (HQ13.out.later hb14.out); have HM14 := Lib.hid (HM13.out.below hb14.out); have HLO := Lib.hid (lostB_of hlo3.out hlo1.out); clear hlo1 hlo3 hb14 HQ13 HM13 HSW; go_simp)
  refine hK.out _ _ (fun _ => ?_) (fun hHeld' => ?_)
  ·exact ⟨⟨⟨HQ14.out.bx.bn.cell 0, HQ14.out.bx.bn.cell 1⟩, HQ14.out.bx.bo.cell 0⟩, HQ14.out.bx.bo.cell 1⟩
  replace hHeld := hHeld' rfl
  clear hHeld' hK K
  try dsimp only at hHeld
  refine tk 9 64 (mf 16 10) hHeld ?_
  refine tk 10 74 (mf 16 11) hHeld ?_
  refine tk 11 75 (mf 16 12) hHeld ?_
  refine tk 12 76 (mf 16 13) hHeld ?_
  refine tk 13 13 (mf 16 14) hHeld ?_
  refine tk 14 14 (mf 16 15) hHeld ?_
  refine tk 15 15 (mf 16 16) hHeld ?_
  refine wpAnyJ_done (by kernel_rfl) ?_ _
  have e3 := HQ14.out.bo.cell 3
  have y3 := HQ14.out.bo.frozen 3
  have HQ15 : Hid (RhQ w #[.slice An ns.length cn, .slice Ad nd cd] #[.int .i64 i, .int .i64 1] #[.int .i64 co, .slice Al nl cl, .slice Ap np cp] #[.string nm, .int .i64 kd, .int .i64 a, .int .i64 b, .int .i64 xco] #[.bool false, .bool false, .bool (badB kd 1 du (lvE (colsOf ns.length ds s) ⟨nm, kd, a, b, xco⟩)), .bool (lostB ns ds s (withL s i 1)), .bool (lockB ls i), .bool false, .bool (xco != co), .bool false, .bool false] _) := HQ14.out.set 3 (.bool (lostB ns ds s (withL s i 1)))
  rw [← HLO.out] at HQ15
  go_upto_region 13 with (fail)
  clear e3 y3 HQ14 hlo2
  rw [HLO.out] at HQ15 ⊢
  clear HLO
  generalize World.setCell w14 _ _ = w15 at *
  rcases hk4 : (kd == 4) with _ | _
  ·have HQK : Hid (decide (kd = 4) = false) := hk4
   have o0 := HQ15.out.bx.bo.c0
   have o1 := HQ15.out.bx.bo.c1
   have g0 := HQ15.out.bx.bg.c0
   have g1 := HQ15.out.bx.bg.c1
   have g2 := HQ15.out.bx.bg.c2
   have d1 := HQ15.out.bd.cell 1
   have d2 := HQ15.out.bd.cell 2
   have d4 := HQ15.out.bd.cell 4
   have e5 := HQ15.out.bo.cell 5
   have y5 := HQ15.out.bo.frozen 5
   have HQ16 : Hid (RhQ w #[.slice An ns.length cn, .slice Ad nd cd] #[.int .i64 i, .int .i64 1] #[.int .i64 co, .slice Al nl cl, .slice Ap np cp] #[.string nm, .int .i64 kd, .int .i64 a, .int .i64 b, .int .i64 xco] #[.bool false, .bool false, .bool (badB kd 1 du (lvE (colsOf ns.length ds s) ⟨nm, kd, a, b, xco⟩)), .bool (lostB ns ds s (withL s i 1)), .bool (lockB ls i), .bool false, .bool (xco != co), .bool false, .bool false] _) := HQ15.out.set 5 (.bool (false))
   go_upto_region 14 with (fail)
   clear e5 y5 o0 o1 g0 g1 g2 d1 d2 d4 HQ15 HM14
   generalize World.setCell w15 _ _ = w17 at *
   have e0 := HQ16.out.bo.cell 0
   have r0 := HQ16.out.br.cell 0
   have y0 := HQ16.out.br.frozen 0
   have e1 := HQ16.out.bo.cell 1
   have r1 := HQ16.out.br.cell 1
   have y1 := HQ16.out.br.frozen 1
   have e2 := HQ16.out.bo.cell 2
   have r2 := HQ16.out.br.cell 2
   have y2 := HQ16.out.br.frozen 2
   have e3 := HQ16.out.bo.cell 3
   have r3 := HQ16.out.br.cell 3
   have y3 := HQ16.out.br.frozen 3
   have e4 := HQ16.out.bo.cell 4
   have r4 := HQ16.out.br.cell 4
   have y4 := HQ16.out.br.frozen 4
   have e5 := HQ16.out.bo.cell 5
   have r5 := HQ16.out.br.cell 5
   have y5 := HQ16.out.br.frozen 5
   have e6 := HQ16.out.bo.cell 6
   have r6 := HQ16.out.br.cell 6
   have y6 := HQ16.out.br.frozen 6
   have e7 := HQ16.out.bo.cell 7
   have r7 := HQ16.out.br.cell 7
   have y7 := HQ16.out.br.frozen 7
   have e8 := HQ16.out.bo.cell 8
   have r8 := HQ16.out.br.cell 8
   have y8 := HQ16.out.br.frozen 8
   have HX : Hid (Below w.heap.size w (((((((((w17.setCell ⟨w.heap.size + 3, 0, none⟩ (.bool (false))).setCell ⟨w.heap.size + 3, 1, none⟩ (.bool (false))).setCell ⟨w.heap.size + 3, 2, none⟩ (.bool (badB kd 1 du (lvE (colsOf ns.length ds s) ⟨nm, kd, a, b, xco⟩)))).setCell ⟨w.heap.size + 3, 3, none⟩ (.bool (lostB ns ds s (withL s i 1)))).setCell ⟨w.heap.size + 3, 4, none⟩ (.bool (lockB ls i))).setCell ⟨w.heap.size + 3, 5, none⟩ (.bool (false))).setCell ⟨w.heap.size + 3, 6, none⟩ (.bool (xco != co))).setCell ⟨w.heap.size + 3, 7, none⟩ (.bool (false))).setCell ⟨w.heap.size + 3, 8, none⟩ (.bool (false)))) := (((((((((HQ16.out.bx.bl.setCell (p := ⟨w.heap.size + 3, 0, none⟩) (by simp) (.bool (false))).setCell (p := ⟨w.heap.size + 3, 1, none⟩) (by simp) (.bool (false))).setCell (p := ⟨w.heap.size + 3, 2, none⟩) (by simp) (.bool (badB kd 1 du (lvE (colsOf ns.length ds s) ⟨nm, kd, a, b, xco⟩)))).setCell (p := ⟨w.heap.size + 3, 3, none⟩) (by simp) (.bool (lostB ns ds s (withL s i 1)))).setCell (p := ⟨w.heap.size + 3, 4, none⟩) (by simp) (.bool (lockB ls i))).setCell (p := ⟨w.heap.size + 3, 5, none⟩) (by simp) (.bool (false))).setCell (p := ⟨w.heap.size + 3, 6, none⟩) (by simp) (.bool (xco != co))).setCell (p := ⟨w.heap.size + 3, 7, none⟩) (by simp) (.bool (false))).setCell (p := ⟨w.heap.size + 3, 8, none⟩) (by simp) (.bool (false)))
   have HR : Hid (hzF ns.length ns ds s i 1 co ls pr ⟨nm, kd, a, b, xco⟩ = [false, false, badB kd 1 du (lvE (colsOf ns.length ds s) ⟨nm, kd, a, b, xco⟩), lostB ns ds s (withL s i 1), lockB ls i, false, xco != co, false, false]) := by
    unfold Hid
    rw [HF.out s, if_neg HNF.out, HDE.out.symm, HQK.out]; rfl
   generalize (badB kd 1 du (lvE (colsOf ns.length ds s) ⟨nm, kd, a, b, xco⟩)) = v2 at *
   generalize (lostB ns ds s (withL s i 1)) = v3 at *
   generalize (lockB ls i) = v4 at *
   generalize (xco != co) = v6 at *
   go_wp2_with fail
   exact bodyPost_ret (v := .agg #[.bool false, .bool false, .bool v2, .bool v3, .bool v4, .bool false, .bool v6, .bool false, .bool false]) (by simp [results, Tryz.results81, go_sem, r0, r1, r2, r3, r4, r5, r6, r7, r8]) rfl ⟨by rw [HR.out]; rfl, HX.out⟩
  ·have HQK : Hid (decide (kd = 4) = true) := hk4
   have o0 := HQ15.out.bx.bo.c0
   have o1 := HQ15.out.bx.bo.c1
   have g0 := HQ15.out.bx.bg.c0
   have g1 := HQ15.out.bx.bg.c1
   have g2 := HQ15.out.bx.bg.c2
   have d1 := HQ15.out.bd.cell 1
   have d2 := HQ15.out.bd.cell 2
   have d4 := HQ15.out.bd.cell 4
   have e5 := HQ15.out.bo.cell 5
   have y5 := HQ15.out.bo.frozen 5
   have HQ16 : Hid (RhQ w #[.slice An ns.length cn, .slice Ad nd cd] #[.int .i64 i, .int .i64 1] #[.int .i64 co, .slice Al nl cl, .slice Ap np cp] #[.string nm, .int .i64 kd, .int .i64 a, .int .i64 b, .int .i64 xco] #[.bool false, .bool false, .bool (badB kd 1 du (lvE (colsOf ns.length ds s) ⟨nm, kd, a, b, xco⟩)), .bool (lostB ns ds s (withL s i 1)), .bool (lockB ls i), .bool false, .bool (xco != co), .bool false, .bool false] _) := HQ15.out.set 5 (.bool (false))
   go_upto_region 14 with (fail)
   clear e5 y5 o0 o1 g0 g1 g2 d1 d2 d4 HQ15 HM14
   generalize World.setCell w15 _ _ = w17 at *
   have e0 := HQ16.out.bo.cell 0
   have r0 := HQ16.out.br.cell 0
   have y0 := HQ16.out.br.frozen 0
   have e1 := HQ16.out.bo.cell 1
   have r1 := HQ16.out.br.cell 1
   have y1 := HQ16.out.br.frozen 1
   have e2 := HQ16.out.bo.cell 2
   have r2 := HQ16.out.br.cell 2
   have y2 := HQ16.out.br.frozen 2
   have e3 := HQ16.out.bo.cell 3
   have r3 := HQ16.out.br.cell 3
   have y3 := HQ16.out.br.frozen 3
   have e4 := HQ16.out.bo.cell 4
   have r4 := HQ16.out.br.cell 4
   have y4 := HQ16.out.br.frozen 4
   have e5 := HQ16.out.bo.cell 5
   have r5 := HQ16.out.br.cell 5
   have y5 := HQ16.out.br.frozen 5
   have e6 := HQ16.out.bo.cell 6
   have r6 := HQ16.out.br.cell 6
   have y6 := HQ16.out.br.frozen 6
   have e7 := HQ16.out.bo.cell 7
   have r7 := HQ16.out.br.cell 7
   have y7 := HQ16.out.br.frozen 7
   have e8 := HQ16.out.bo.cell 8
   have r8 := HQ16.out.br.cell 8
   have y8 := HQ16.out.br.frozen 8
   have HX : Hid (Below w.heap.size w (((((((((w17.setCell ⟨w.heap.size + 3, 0, none⟩ (.bool (false))).setCell ⟨w.heap.size + 3, 1, none⟩ (.bool (false))).setCell ⟨w.heap.size + 3, 2, none⟩ (.bool (badB kd 1 du (lvE (colsOf ns.length ds s) ⟨nm, kd, a, b, xco⟩)))).setCell ⟨w.heap.size + 3, 3, none⟩ (.bool (lostB ns ds s (withL s i 1)))).setCell ⟨w.heap.size + 3, 4, none⟩ (.bool (lockB ls i))).setCell ⟨w.heap.size + 3, 5, none⟩ (.bool (false))).setCell ⟨w.heap.size + 3, 6, none⟩ (.bool (xco != co))).setCell ⟨w.heap.size + 3, 7, none⟩ (.bool (false))).setCell ⟨w.heap.size + 3, 8, none⟩ (.bool (false)))) := (((((((((HQ16.out.bx.bl.setCell (p := ⟨w.heap.size + 3, 0, none⟩) (by simp) (.bool (false))).setCell (p := ⟨w.heap.size + 3, 1, none⟩) (by simp) (.bool (false))).setCell (p := ⟨w.heap.size + 3, 2, none⟩) (by simp) (.bool (badB kd 1 du (lvE (colsOf ns.length ds s) ⟨nm, kd, a, b, xco⟩)))).setCell (p := ⟨w.heap.size + 3, 3, none⟩) (by simp) (.bool (lostB ns ds s (withL s i 1)))).setCell (p := ⟨w.heap.size + 3, 4, none⟩) (by simp) (.bool (lockB ls i))).setCell (p := ⟨w.heap.size + 3, 5, none⟩) (by simp) (.bool (false))).setCell (p := ⟨w.heap.size + 3, 6, none⟩) (by simp) (.bool (xco != co))).setCell (p := ⟨w.heap.size + 3, 7, none⟩) (by simp) (.bool (false))).setCell (p := ⟨w.heap.size + 3, 8, none⟩) (by simp) (.bool (false)))
   have HR : Hid (hzF ns.length ns ds s i 1 co ls pr ⟨nm, kd, a, b, xco⟩ = [false, false, badB kd 1 du (lvE (colsOf ns.length ds s) ⟨nm, kd, a, b, xco⟩), lostB ns ds s (withL s i 1), lockB ls i, false, xco != co, false, false]) := by
    unfold Hid
    rw [HF.out s, if_neg HNF.out, HDE.out.symm, HQK.out]; rfl
   generalize (badB kd 1 du (lvE (colsOf ns.length ds s) ⟨nm, kd, a, b, xco⟩)) = v2 at *
   generalize (lostB ns ds s (withL s i 1)) = v3 at *
   generalize (lockB ls i) = v4 at *
   generalize (xco != co) = v6 at *
   go_wp2_with fail
   exact bodyPost_ret (v := .agg #[.bool false, .bool false, .bool v2, .bool v3, .bool v4, .bool false, .bool v6, .bool false, .bool false]) (by simp [results, Tryz.results81, go_sem, r0, r1, r2, r3, r4, r5, r6, r7, r8]) rfl ⟨by rw [HR.out]; rfl, HX.out⟩
 ·have HV1 : Hid ((decide ((2 : Int) = 2) && decide (du = 4)) = (du == 4)) := rfl
  rw [HV1.out] at HQ9
  go_upto_region 10 with (fail)
  clear o0 o1 e1 y1 HQ8
  generalize World.setCell w8 _ _ = w9 at *
  have HM9 := Lib.hid (HH.out.below HQ9.out.bx.bl)
  have k0 := HQ9.out.bx.bn.c0
  have k1 := HQ9.out.bx.bn.c1
  have o0 := HQ9.out.bx.bo.c0
  have o1 := HQ9.out.bx.bo.c1
  go_wp2_with fail
  clear k0 k1 o0 o1 HM8
  refine (HBA.out w9 ⟨HM9.out.hn, HM9.out.hd, HM9.out.hs, Sl.nil _ _ _, Sl.nil _ _ _, HM9.out.la, HM9.out.sn, HM9.out.sd⟩ H0.out HX.out (by simp)).mono ?_
  rintro e w10 ⟨rfl, hb10⟩
  have HQ10 := Lib.hid (HQ9.out.later hb10)
  clear hb10 HQ9 HM9 HBA
  have e2 := HQ10.out.bo.cell 2
  have y2 := HQ10.out.bo.frozen 2
  have HQ11 : Hid (RhQ w #[.slice An ns.length cn, .slice Ad nd cd] #[.int .i64 i, .int .i64 2] #[.int .i64 co, .slice Al nl cl, .slice Ap np cp] #[.string nm, .int .i64 kd, .int .i64 a, .int .i64 b, .int .i64 xco] #[.bool false, .bool (du == 4), .bool (badB kd 2 du (lvE (colsOf ns.length ds s) ⟨nm, kd, a, b, xco⟩)), .bool false, .bool (lockB ls i), .bool false, .bool (xco != co), .bool false, .bool false] _) := HQ10.out.set 2 (.bool (badB kd 2 du (lvE (colsOf ns.length ds s) ⟨nm, kd, a, b, xco⟩)))
  go_upto_region 11 with (fail)
  clear e2 y2 HQ10
  generalize World.setCell w10 _ _ = w11 at *
  have HQ12 := Lib.hid HQ11.out.drew
  have HM12 := Lib.hid (HH.out.below HQ12.out.bx.bl)
  clear HQ11
  refine wp_region_J (S := fun W' => ((W'.cell? ⟨w.heap.size, 0, none⟩ = some (.slice An ns.length cn) ∧ W'.cell? ⟨w.heap.size, 1, none⟩ = some (.slice Ad nd cd)) ∧ W'.cell? ⟨w.heap.size + 1, 0, none⟩ = some (.int .i64 i)) ∧ W'.cell? ⟨w.heap.size + 1, 1, none⟩ = some (.int .i64 2)) (J := []) (by kernel_rfl) ?_ (fun hHeld => ?_)
  ·exact ⟨⟨⟨HQ12.out.bx.bn.cell 0, HQ12.out.bx.bn.cell 1⟩, HQ12.out.bx.bo.cell 0⟩, HQ12.out.bx.bo.cell 1⟩
  try dsimp only at hHeld
  refine tk 1 66 #[ff, tt, ff, ff, ff, ff, ff, ff, ff, ff, ff, ff, ff, ff, ff, ff] hHeld ?_
  refine tk 2 67 #[ff, tt, tt, ff, ff, ff, ff, ff, ff, ff, ff, ff, ff, ff, ff, ff] hHeld ?_
  refine tk 3 68 #[ff, tt, tt, tt, ff, ff, ff, ff, ff, ff, ff, ff, ff, ff, ff, ff] hHeld ?_
  refine tk 5 70 #[ff, tt, tt, tt, ff, tt, ff, ff, ff, ff, ff, ff, ff, ff, ff, ff] hHeld ?_
  refine wpAnyJ_takeL (i := 0) (d := some 65) (v := ?_) #[tt, tt, tt, tt, ff, tt, ff, ff, ff, ff, ff, ff, ff, ff, ff, ff] (by kernel_rfl) rfl rfl (by kernel_rfl) (by kernel_rfl) (by kernel_rfl) (by kernel_rfl) (by kernel_rfl) (fun _ _ _ h => h) (Or.inl ⟨by rfl, ?_⟩) hHeld ?_
  rotate_left
  ·(intro w hSw; (try dsimp only at hSw); have k0 := hSw.1.1.1; have k1 := hSw.1.1.2; go_simp; try with_reducible rfl)
  try simp only [Act.put, sA, sB, sC]
  refine wpAnyJ_takeL (i := 4) (d := some 69) (v := ?_) (mf 16 6) (by kernel_rfl) rfl rfl (by kernel_rfl) (by kernel_rfl) (by kernel_rfl) (by kernel_rfl) (by kernel_rfl) (fun _ _ _ h => h) (Or.inl ⟨by rfl, ?_⟩) hHeld ?_
  rotate_left
  ·(intro w hSw; (try dsimp only at hSw); have o0 := hSw.1.2; go_simp; try with_reducible rfl)
  try simp only [Act.put, sA, sB, sC]
  refine wpAnyJ_takeL (i := 6) (d := some 71) (v := ?_) (mf 16 7) (by kernel_rfl) rfl rfl (by kernel_rfl) (by kernel_rfl) (by kernel_rfl) (by kernel_rfl) (by kernel_rfl) (fun _ _ _ h => h) (Or.inl ⟨by rfl, ?_⟩) hHeld ?_
  rotate_left
  ·(intro w hSw; (try dsimp only at hSw); have o1 := hSw.2; go_simp; try with_reducible rfl)
  try simp only [Act.put, sA, sB, sC]
  refine wpAnyJ_oneL (k := 7) (mf 16 8) (by kernel_rfl) (by kernel_rfl) rfl (fun K hK => ?_)
  (go_simp; refine (rwith_any As n c w11.drew.heap.size s i 2 w11.drew HM12.out.hs (Nat.le_refl _) (by omega)).mono ?_; rintro e w13 ⟨Aw, cw, rfl, hOw, hb13⟩; rw [withL_len, HLS.out] at hOw ⊢; have HQ13 := Lib.hid (HQ12.out.later hb13.out); have HM13 := Lib.hid (HM12.out.below hb13.out); have HSW : Hid (Sl w13 w13.heap.size 1 Aw n cw (intsV (withL s i 2))) := hOw.out.sl; clear hOw hb13 HQ12 HM12; go_simp)
  refine hK.out _ _ (fun _ => ?_) (fun hHeld' => ?_)
  ·exact ⟨⟨⟨HQ13.out.bx.bn.cell 0, HQ13.out.bx.bn.cell 1⟩, HQ13.out.bx.bo.cell 0⟩, HQ13.out.bx.bo.cell 1⟩
  replace hHeld := hHeld' rfl
  clear hHeld' hK K
  try dsimp only at hHeld
  refine wpAnyJ_oneL (k := 8) (mf 16 9) (by kernel_rfl) (by kernel_rfl) rfl (fun K hK => ?_)
  (go_simp; refine (rlost_any An Ad As Aw ns.length cn nd cd n c n cw ns ds s (withL s i 2) w13 HM13.out.hn HM13.out.hd HM13.out.hs HSW.out HM13.out.sn HM13.out.sd (by omega) H0.out (stateErr_with H0.out i (by simp)) (by omega) (by omega) ⟨HN.out.e, HN.out.ne⟩ ⟨HN.out.a, HN.out.k⟩).mono ?_; rintro e w14 ⟨Ao, mo, coo, lo, ko, rfl, hlo1, hlo2, hlo3, hb14⟩; have HQ14 := Lib.hid (HQ13.out.later hb14.out); have HM14 := Lib.hid (HM13.out.below hb14.out); have HLO := Lib.hid (lostB_of hlo3.out hlo1.out); clear hlo1 hlo3 hb14 HQ13 HM13 HSW; go_simp)
  refine hK.out _ _ (fun _ => ?_) (fun hHeld' => ?_)
  ·exact ⟨⟨⟨HQ14.out.bx.bn.cell 0, HQ14.out.bx.bn.cell 1⟩, HQ14.out.bx.bo.cell 0⟩, HQ14.out.bx.bo.cell 1⟩
  replace hHeld := hHeld' rfl
  clear hHeld' hK K
  try dsimp only at hHeld
  refine tk 9 64 (mf 16 10) hHeld ?_
  refine tk 10 74 (mf 16 11) hHeld ?_
  refine tk 11 75 (mf 16 12) hHeld ?_
  refine tk 12 76 (mf 16 13) hHeld ?_
  refine tk 13 13 (mf 16 14) hHeld ?_
  refine tk 14 14 (mf 16 15) hHeld ?_
  refine tk 15 15 (mf 16 16) hHeld ?_
  refine wpAnyJ_done (by kernel_rfl) ?_ _
  have e3 := HQ14.out.bo.cell 3
  have y3 := HQ14.out.bo.frozen 3
  have HQ15 : Hid (RhQ w #[.slice An ns.length cn, .slice Ad nd cd] #[.int .i64 i, .int .i64 2] #[.int .i64 co, .slice Al nl cl, .slice Ap np cp] #[.string nm, .int .i64 kd, .int .i64 a, .int .i64 b, .int .i64 xco] #[.bool false, .bool (du == 4), .bool (badB kd 2 du (lvE (colsOf ns.length ds s) ⟨nm, kd, a, b, xco⟩)), .bool (lostB ns ds s (withL s i 2)), .bool (lockB ls i), .bool false, .bool (xco != co), .bool false, .bool false] _) := HQ14.out.set 3 (.bool (lostB ns ds s (withL s i 2)))
  rw [← HLO.out] at HQ15
  go_upto_region 13 with (fail)
  clear e3 y3 HQ14 hlo2
  rw [HLO.out] at HQ15 ⊢
  clear HLO
  generalize World.setCell w14 _ _ = w15 at *
  rcases hk4 : (kd == 4) with _ | _
  ·have HQK : Hid (decide (kd = 4) = false) := hk4
   have o0 := HQ15.out.bx.bo.c0
   have o1 := HQ15.out.bx.bo.c1
   have g0 := HQ15.out.bx.bg.c0
   have g1 := HQ15.out.bx.bg.c1
   have g2 := HQ15.out.bx.bg.c2
   have d1 := HQ15.out.bd.cell 1
   have d2 := HQ15.out.bd.cell 2
   have d4 := HQ15.out.bd.cell 4
   have e5 := HQ15.out.bo.cell 5
   have y5 := HQ15.out.bo.frozen 5
   have HQ16 : Hid (RhQ w #[.slice An ns.length cn, .slice Ad nd cd] #[.int .i64 i, .int .i64 2] #[.int .i64 co, .slice Al nl cl, .slice Ap np cp] #[.string nm, .int .i64 kd, .int .i64 a, .int .i64 b, .int .i64 xco] #[.bool false, .bool (du == 4), .bool (badB kd 2 du (lvE (colsOf ns.length ds s) ⟨nm, kd, a, b, xco⟩)), .bool (lostB ns ds s (withL s i 2)), .bool (lockB ls i), .bool false, .bool (xco != co), .bool false, .bool false] _) := HQ15.out.set 5 (.bool (false))
   go_upto_region 14 with (fail)
   clear e5 y5 o0 o1 g0 g1 g2 d1 d2 d4 HQ15 HM14
   generalize World.setCell w15 _ _ = w17 at *
   have e0 := HQ16.out.bo.cell 0
   have r0 := HQ16.out.br.cell 0
   have y0 := HQ16.out.br.frozen 0
   have e1 := HQ16.out.bo.cell 1
   have r1 := HQ16.out.br.cell 1
   have y1 := HQ16.out.br.frozen 1
   have e2 := HQ16.out.bo.cell 2
   have r2 := HQ16.out.br.cell 2
   have y2 := HQ16.out.br.frozen 2
   have e3 := HQ16.out.bo.cell 3
   have r3 := HQ16.out.br.cell 3
   have y3 := HQ16.out.br.frozen 3
   have e4 := HQ16.out.bo.cell 4
   have r4 := HQ16.out.br.cell 4
   have y4 := HQ16.out.br.frozen 4
   have e5 := HQ16.out.bo.cell 5
   have r5 := HQ16.out.br.cell 5
   have y5 := HQ16.out.br.frozen 5
   have e6 := HQ16.out.bo.cell 6
   have r6 := HQ16.out.br.cell 6
   have y6 := HQ16.out.br.frozen 6
   have e7 := HQ16.out.bo.cell 7
   have r7 := HQ16.out.br.cell 7
   have y7 := HQ16.out.br.frozen 7
   have e8 := HQ16.out.bo.cell 8
   have r8 := HQ16.out.br.cell 8
   have y8 := HQ16.out.br.frozen 8
   have HX : Hid (Below w.heap.size w (((((((((w17.setCell ⟨w.heap.size + 3, 0, none⟩ (.bool (false))).setCell ⟨w.heap.size + 3, 1, none⟩ (.bool (du == 4))).setCell ⟨w.heap.size + 3, 2, none⟩ (.bool (badB kd 2 du (lvE (colsOf ns.length ds s) ⟨nm, kd, a, b, xco⟩)))).setCell ⟨w.heap.size + 3, 3, none⟩ (.bool (lostB ns ds s (withL s i 2)))).setCell ⟨w.heap.size + 3, 4, none⟩ (.bool (lockB ls i))).setCell ⟨w.heap.size + 3, 5, none⟩ (.bool (false))).setCell ⟨w.heap.size + 3, 6, none⟩ (.bool (xco != co))).setCell ⟨w.heap.size + 3, 7, none⟩ (.bool (false))).setCell ⟨w.heap.size + 3, 8, none⟩ (.bool (false)))) := (((((((((HQ16.out.bx.bl.setCell (p := ⟨w.heap.size + 3, 0, none⟩) (by simp) (.bool (false))).setCell (p := ⟨w.heap.size + 3, 1, none⟩) (by simp) (.bool (du == 4))).setCell (p := ⟨w.heap.size + 3, 2, none⟩) (by simp) (.bool (badB kd 2 du (lvE (colsOf ns.length ds s) ⟨nm, kd, a, b, xco⟩)))).setCell (p := ⟨w.heap.size + 3, 3, none⟩) (by simp) (.bool (lostB ns ds s (withL s i 2)))).setCell (p := ⟨w.heap.size + 3, 4, none⟩) (by simp) (.bool (lockB ls i))).setCell (p := ⟨w.heap.size + 3, 5, none⟩) (by simp) (.bool (false))).setCell (p := ⟨w.heap.size + 3, 6, none⟩) (by simp) (.bool (xco != co))).setCell (p := ⟨w.heap.size + 3, 7, none⟩) (by simp) (.bool (false))).setCell (p := ⟨w.heap.size + 3, 8, none⟩) (by simp) (.bool (false)))
   have HR : Hid (hzF ns.length ns ds s i 2 co ls pr ⟨nm, kd, a, b, xco⟩ = [false, du == 4, badB kd 2 du (lvE (colsOf ns.length ds s) ⟨nm, kd, a, b, xco⟩), lostB ns ds s (withL s i 2), lockB ls i, false, xco != co, false, false]) := by
    unfold Hid
    rw [HF.out s, if_neg HNF.out, HDE.out.symm, HQK.out]; rfl
   generalize (du == 4) = v1 at *
   generalize (badB kd 2 du (lvE (colsOf ns.length ds s) ⟨nm, kd, a, b, xco⟩)) = v2 at *
   generalize (lostB ns ds s (withL s i 2)) = v3 at *
   generalize (lockB ls i) = v4 at *
   generalize (xco != co) = v6 at *
   go_wp2_with fail
   exact bodyPost_ret (v := .agg #[.bool false, .bool v1, .bool v2, .bool v3, .bool v4, .bool false, .bool v6, .bool false, .bool false]) (by simp [results, Tryz.results81, go_sem, r0, r1, r2, r3, r4, r5, r6, r7, r8]) rfl ⟨by rw [HR.out]; rfl, HX.out⟩
  ·have HQK : Hid (decide (kd = 4) = true) := hk4
   have o0 := HQ15.out.bx.bo.c0
   have o1 := HQ15.out.bx.bo.c1
   have g0 := HQ15.out.bx.bg.c0
   have g1 := HQ15.out.bx.bg.c1
   have g2 := HQ15.out.bx.bg.c2
   have d1 := HQ15.out.bd.cell 1
   have d2 := HQ15.out.bd.cell 2
   have d4 := HQ15.out.bd.cell 4
   have e5 := HQ15.out.bo.cell 5
   have y5 := HQ15.out.bo.frozen 5
   go_wp2_with fail
   clear o0 o1 g0 g1 g2 d1 d2 d4 e5 y5
   refine (rhas_any Ap np cp pr a w15 (HH.out.below HQ15.out.bx.bl).hp).mono ?_
   rintro e w16 ⟨rfl, rfl⟩
   have e5 := HQ15.out.bo.cell 5
   have y5 := HQ15.out.bo.frozen 5
   have HQ16 : Hid (RhQ w #[.slice An ns.length cn, .slice Ad nd cd] #[.int .i64 i, .int .i64 2] #[.int .i64 co, .slice Al nl cl, .slice Ap np cp] #[.string nm, .int .i64 kd, .int .i64 a, .int .i64 b, .int .i64 xco] #[.bool false, .bool (du == 4), .bool (badB kd 2 du (lvE (colsOf ns.length ds s) ⟨nm, kd, a, b, xco⟩)), .bool (lostB ns ds s (withL s i 2)), .bool (lockB ls i), .bool (!(decide ((a : Int) ∈ pr))), .bool (xco != co), .bool false, .bool false] _) := HQ15.out.set 5 (.bool (!(decide ((a : Int) ∈ pr))))
   go_upto_region 14 with (fail)
   clear e5 y5 HQ15 HM14
   generalize World.setCell w15 _ _ = w17 at *
   have e0 := HQ16.out.bo.cell 0
   have r0 := HQ16.out.br.cell 0
   have y0 := HQ16.out.br.frozen 0
   have e1 := HQ16.out.bo.cell 1
   have r1 := HQ16.out.br.cell 1
   have y1 := HQ16.out.br.frozen 1
   have e2 := HQ16.out.bo.cell 2
   have r2 := HQ16.out.br.cell 2
   have y2 := HQ16.out.br.frozen 2
   have e3 := HQ16.out.bo.cell 3
   have r3 := HQ16.out.br.cell 3
   have y3 := HQ16.out.br.frozen 3
   have e4 := HQ16.out.bo.cell 4
   have r4 := HQ16.out.br.cell 4
   have y4 := HQ16.out.br.frozen 4
   have e5 := HQ16.out.bo.cell 5
   have r5 := HQ16.out.br.cell 5
   have y5 := HQ16.out.br.frozen 5
   have e6 := HQ16.out.bo.cell 6
   have r6 := HQ16.out.br.cell 6
   have y6 := HQ16.out.br.frozen 6
   have e7 := HQ16.out.bo.cell 7
   have r7 := HQ16.out.br.cell 7
   have y7 := HQ16.out.br.frozen 7
   have e8 := HQ16.out.bo.cell 8
   have r8 := HQ16.out.br.cell 8
   have y8 := HQ16.out.br.frozen 8
   have HX : Hid (Below w.heap.size w (((((((((w17.setCell ⟨w.heap.size + 3, 0, none⟩ (.bool (false))).setCell ⟨w.heap.size + 3, 1, none⟩ (.bool (du == 4))).setCell ⟨w.heap.size + 3, 2, none⟩ (.bool (badB kd 2 du (lvE (colsOf ns.length ds s) ⟨nm, kd, a, b, xco⟩)))).setCell ⟨w.heap.size + 3, 3, none⟩ (.bool (lostB ns ds s (withL s i 2)))).setCell ⟨w.heap.size + 3, 4, none⟩ (.bool (lockB ls i))).setCell ⟨w.heap.size + 3, 5, none⟩ (.bool (!(decide ((a : Int) ∈ pr))))).setCell ⟨w.heap.size + 3, 6, none⟩ (.bool (xco != co))).setCell ⟨w.heap.size + 3, 7, none⟩ (.bool (false))).setCell ⟨w.heap.size + 3, 8, none⟩ (.bool (false)))) := (((((((((HQ16.out.bx.bl.setCell (p := ⟨w.heap.size + 3, 0, none⟩) (by simp) (.bool (false))).setCell (p := ⟨w.heap.size + 3, 1, none⟩) (by simp) (.bool (du == 4))).setCell (p := ⟨w.heap.size + 3, 2, none⟩) (by simp) (.bool (badB kd 2 du (lvE (colsOf ns.length ds s) ⟨nm, kd, a, b, xco⟩)))).setCell (p := ⟨w.heap.size + 3, 3, none⟩) (by simp) (.bool (lostB ns ds s (withL s i 2)))).setCell (p := ⟨w.heap.size + 3, 4, none⟩) (by simp) (.bool (lockB ls i))).setCell (p := ⟨w.heap.size + 3, 5, none⟩) (by simp) (.bool (!(decide ((a : Int) ∈ pr))))).setCell (p := ⟨w.heap.size + 3, 6, none⟩) (by simp) (.bool (xco != co))).setCell (p := ⟨w.heap.size + 3, 7, none⟩) (by simp) (.bool (false))).setCell (p := ⟨w.heap.size + 3, 8, none⟩) (by simp) (.bool (false)))
   have HR : Hid (hzF ns.length ns ds s i 2 co ls pr ⟨nm, kd, a, b, xco⟩ = [false, du == 4, badB kd 2 du (lvE (colsOf ns.length ds s) ⟨nm, kd, a, b, xco⟩), lostB ns ds s (withL s i 2), lockB ls i, !(decide ((a : Int) ∈ pr)), xco != co, false, false]) := by
    unfold Hid
    rw [HF.out s, if_neg HNF.out, HDE.out.symm, HQK.out, hasB_dec]; rfl
   generalize (du == 4) = v1 at *
   generalize (badB kd 2 du (lvE (colsOf ns.length ds s) ⟨nm, kd, a, b, xco⟩)) = v2 at *
   generalize (lostB ns ds s (withL s i 2)) = v3 at *
   generalize (lockB ls i) = v4 at *
   generalize (!(decide ((a : Int) ∈ pr))) = v5 at *
   generalize (xco != co) = v6 at *
   go_wp2_with fail
   exact bodyPost_ret (v := .agg #[.bool false, .bool v1, .bool v2, .bool v3, .bool v4, .bool v5, .bool v6, .bool false, .bool false]) (by simp [results, Tryz.results81, go_sem, r0, r1, r2, r3, r4, r5, r6, r7, r8]) rfl ⟨by rw [HR.out]; rfl, HX.out⟩
end Go.Proofs.YtfaknfmndafllaaGreatDoor
