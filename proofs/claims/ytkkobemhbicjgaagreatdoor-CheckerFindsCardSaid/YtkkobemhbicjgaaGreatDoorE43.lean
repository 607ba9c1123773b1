import Derived.Test.YtkkobemhbicjgaaGreatDoorE41
import Derived.Test.YtkkobemhbicjgaaGreatDoorE42
set_option maxRecDepth 100000
set_option maxHeartbeats 32000000
namespace Go.Proofs.YtkkobemhbicjgaaGreatDoor
open Go.RowKit
theorem jQ {a b : List Fn} (h : jt a b) {f : Fn} (hf : f ∈ a) : ((f.hz == 7) || b.any fun y => Fn.eqB f y) = true := by
 rcases h f hf with h | h
 ·simp [h]
 ·rw [Bool.or_eq_true]; right
  rw [List.any_eq_true]
  exact ⟨f, h, by unfold Fn.eqB; simp⟩
theorem walk_CheckerFinds (w : World) (hl : Laid w) (A : Option Addr) (n c : Nat) (zs : List Int) (hs : Sl w w.heap.size 1 A n c (zD zs)) (_hz : ∀ z ∈ zs, (Lit.int .i64 z).wf = true) :
 Calls Tryz.prog 8 #[.slice A n c] w fun e w' => e = .returned (.bool true) ∧ Below w.heap.size w w' := by
 have hnm := hs.le
 have HL := iD hl; have HS := iD hs
 clear hl hs _hz
 have HF := iD (ia A n c w (by omega))
 rcases hf : decide (n ≤ 400) with _ | _
 ·rw [hf] at HF
  clear hf
  go_enter Tryz.func8, Tryz.ntmps8
  go_wp2_with fail
  refine HF.out.mono ?_
  rintro e w1 ⟨rfl, rfl⟩
  go_wp2_with fail
  refine (ri w HL.out).mono ?_
  rintro e w1 ⟨rfl, hb⟩
  go_wp2_with fail
  go_ret
  exact ⟨rfl, hb⟩
 rw [hf] at HF
 clear hf
 go_enter Tryz.func8, Tryz.ntmps8
 go_wp2_with fail
 refine HF.out.mono ?_
 rintro e w1 ⟨rfl, rfl⟩
 go_wp2_with fail
 refine (iN A n c w.heap.size zs w HS.out lR).mono ?_
 rintro e w1 ⟨rfl, hd1, hb1, hs1⟩
 go_wp2_with fail
 refine (lL w.heap.size 5 8 w1 hd1.out (by decide) (by decide)).mono ?_
 rintro e w2 ⟨An, nn, cn, ns, Ad, nd, cd, ds, rfl, hd2, hg2, hrn, hrd, hmade⟩
 have HMK := LwN.mk0 HL.out hb1.out hs1.out hd2.out hg2.out hrn.out hrd.out hmade.out
 have HNN := iD HMK.2.1; have HND := iD HMK.2.2
 have HN3 := iD HMK.1
 have HMA := iD hmade.out
 have hnd : nd ≤ 8 := by have := hmade.out.dm; rw [HND.out] at this; omega
 have hnd1 : 1 ≤ nd := by have := hmade.out.d1; rw [HND.out] at this; omega
 have hnn : nn ≤ 5 := by have := hmade.out.nm; rw [HNN.out] at this; omega
 have HNM := iD HMA.out.names
 have HCK := iD (HMA.out.check (by decide) (by decide))
 clear HMK hd1 hb1 hs1 hd2 hg2 hrn hrd hmade HS HF
 go_wp2_with fail
 generalize World.alloc _ _ = w3 at *
 obtain ⟨nb, hnb⟩ : ∃ nb, nb = w2.heap.size := ⟨_, rfl⟩
 rw [← hnb] at HN3 ⊢
 clear hnb
 have hnn1 : 2 ≤ nn := by have := HMA.out.n2; rw [HNN.out] at this; exact this
 refine (pS w.heap.size An Ad nn cn nd cd 4 ds w3 HN3.out.dk HN3.out.hd (by omega) (by decide)).mono ?_
 rintro e w5 ⟨As, cs, m, rfl, hd5, hg5, hO5, hmb, hcn⟩
 have HN5 := iD (HN3.out.grown HL.out hg5.out hd5.out)
 have HX5 : Hid (SlX w5 w.heap.size 1 As nd cs (zD m)) := SlX.of_own hO5.out (by have := HN3.out.bl.size; have := HN3.out.bx.lt; have := HN3.out.ge; omega)
 have HLS : Hid (m.length = nd) := hO5.out.len
 have HME : Hid (zU ns ds m = 0) := by unfold Hid zU; rw [if_neg (by rw [HCK.out]; simp), if_neg (by rw [HLS.out, HND.out]; simp), if_pos hmb.out]
 have HMB : Hid (m.all zj = true) := List.all_eq_true.2 hmb.out
 clear hd5 hg5 hO5 hmb hcn HN3
 have k0 := HN5.out.bx.cell 0; have k1 := HN5.out.bx.cell 1
 go_wp2_with fail
 clear k0 k1
 refine (qL w.heap.size An Ad none nn cn nd cd 0 0 w5 HN5.out.dk (by omega)).mono ?_
 rintro e w6 ⟨co, Ap, np, cp, pr, rfl, hco, hd6, hg6, hO6, hri⟩
 have HN6 := iD (HN5.out.grown HL.out hg6.out hd6.out)
 have HX6 := iD (HX5.out.grown hg6.out)
 have HCO := iD hco
 clear hco hd6 hg6 hO6 hri HN5 HX5
 go_upto_region 8 with (fail)
 have HBL : Hid (Below w6.heap.size w6 (w6.alloc (.cells #[.int .i64 co, .slice none 0 0, .slice none 0 0] 37))) := (Below.refl _ _).alloc lR _
 have HG7 : Hid (Blk (w6.alloc (.cells #[.int .i64 co, .slice none 0 0, .slice none 0 0] 37)) w6.heap.size 37 #[.int .i64 co, .slice none 0 0, .slice none 0 0]) := Blk.new w6 _ _
 have HN7 := iD (HN6.out.later HBL.out)
 have HX7 := iD (HX6.out.below HBL.out)
 have hgb7 : w.heap.size < w6.heap.size := HN6.out.dk.lt
 clear HN6 HX6 HBL
 generalize World.alloc w6 _ = w7 at *
 obtain ⟨gb, hgb⟩ : ∃ x, x = w6.heap.size := ⟨_, rfl⟩
 rw [← hgb] at HG7 hgb7 ⊢
 clear hgb
 have k0 := HN7.out.bx.cell 0; have k1 := HN7.out.bx.cell 1
 go_wp2_with fail
 clear k0 k1
 refine (nB w.heap.size An Ad nn cn nd cd 7 w7 HN7.out.dk (by omega) (by omega) (by omega) (by omega) (by decide)).mono ?_
 rintro e w8 ⟨nm, Ax, nx, cx, xs, rfl, hnm, hsp, hO8, hd8, hg8⟩
 have HN8 := iD (HN7.out.grown HL.out hg8.out hd8.out)
 have HX8 := iD (HX7.out.grown hg8.out)
 have HG8 := iD (HG7.out.grown hg8.out (fun e => by injection e; omega))
 have HOX : Hid (SlX w8 w.heap.size 5 Ax nx cx (xs.flatMap Sp.cells)) := SlX.of_own hO8.out HN7.out.dk.lt
 have HNB : Hid (yl (toL nm) = true) := hnm.out
 have HNMS : Hid (nm.size ≤ 9223372036854775807) := by
  have h := hnm.out
  unfold yl at h
  simp only [Bool.and_eq_true, decide_eq_true_eq, rv] at h
  have := h.2; unfold Hid; omega
 have HSPS : Hid (zo ns.length ds.length xs = 0 ∧ xs.length = nx) := by unfold Hid; rw [HNN.out, HND.out]; exact ⟨hsp.out.1, hsp.out.2.1⟩
 have hnx : nx ≤ 7 := hsp.out.2.2
 clear hnm hsp hO8 hd8 hg8 HN7 HX7 HG7 
 go_upto_region 9 with (fail)
 have HBL : Hid (Below w8.heap.size w8 (w8.alloc (.cells #[.string nm, .slice Ax nx cx] 41))) := (Below.refl _ _).alloc lR _
 have HM9 : Hid (LmM w nb gb w8.heap.size An Ad As none none Ax nn cn nd cd cs 0 0 0 0 nx cx ns ds m [] [] co nm xs (w8.alloc (.cells #[.string nm, .slice Ax nx cx] 41))) := ⟨HN8.out.later HBL.out, (HX8.out.below HBL.out).1, HG8.out.below HBL.out HG8.out.lt, Sl.nil _ _ _, Sl.nil _ _ _, Blk.new w8 _ _, (HOX.out.below HBL.out).1⟩
 clear HBL HN8 HX8 HG8 HOX 
 generalize World.alloc w8 _ = w9 at *
 obtain ⟨pb, hpb⟩ : ∃ x, x = w8.heap.size := ⟨_, rfl⟩
 rw [← hpb] at HM9 ⊢
 clear hpb
 have HD8 : Hid (ds.length ≤ 8) := by have := HND.out; unfold Hid; omega
 have HGL : Hid (xK ds []) := ⟨by simp, by simp, List.Pairwise.nil⟩
 have HXL : Hid (xs.length ≤ 64) := by have := HSPS.out.2; unfold Hid; omega
 have HXA := iD (wd HSPS.out.1)
 have HEA : Hid (yn ns ds m co [] [] nm xs = 0) := ii HME.out HCO.out HGL.out rfl HNB.out HXL.out HXA.out
 have HOK : Hid (wX ns ds ⟨m, [], []⟩) := ⟨HME.out, xo HCK.out HGL.out, rfl⟩
 have k0 := HM9.out.n.bx.cell 0; have k1 := HM9.out.n.bx.cell 1
 have g0 := HM9.out.g.cell 0; have g1 := HM9.out.g.cell 1; have g2 := HM9.out.g.cell 2
 have p0 := HM9.out.p.cell 0; have p1 := HM9.out.p.cell 1
 go_wp2_with fail
 clear k0 k1 g0 g1 g2 p0 p1
 refine (rf An Ad As none none Ax nn cn nd cd nd cs 0 0 0 0 nx cx ns ds m [] [] co nm xs w9 (HM9.out.mem HNM.out HNMS.out HM9.out.s)).mono ?_
 intro e w10 hpost
 obtain ⟨A1, A2, A3, A4, n1, c1, n2, c2, n3, c3, n4, c4, rfl, hR, hb10⟩ := hpost.okay HEA.out (qX HD8.out _ _ _ _ HOK.out HXA.out)
 obtain ⟨R, hRR⟩ : ∃ R, R = zf ns ds co 0 [] ⟨m, [], []⟩ xs := ⟨_, rfl⟩
 rw [← hRR] at hR
 have HRR := iD hRR
 have HR10 := iD hR.out
 have HM10 := iD (HM9.out.later hb10.out)
 clear hpost hR hRR hb10 HM9
 go_upto_region 10 with (fail)
 have HBL : Hid (Below w10.heap.size w10 (w10.alloc (.cells #[.slice A1 n1 c1, .slice A2 n2 c2, .int .i64 co, .slice A3 n3 c3, .slice A4 n4 c4] 47))) := (Below.refl _ _).alloc lR _
 have HW : Hid (LmW w nb gb pb w10.heap.size An Ad As none none Ax nn cn nd cd cs 0 0 0 0 nx cx ns ds m [] [] co nm xs A1 A2 A3 A4 n1 c1 n2 c2 n3 c3 n4 c4 R.o R.t (w10.alloc (.cells #[.slice A1 n1 c1, .slice A2 n2 c2, .int .i64 co, .slice A3 n3 c3, .slice A4 n4 c4] 47))) := ⟨HM10.out.later HBL.out, Blk.new w10 _ _, HR10.out.later8 HBL.out⟩
 clear HM10 HR10 HBL
 generalize World.alloc w10 _ = w11 at *
 obtain ⟨rb, hrb⟩ : ∃ x, x = w10.heap.size := ⟨_, rfl⟩
 rw [← hrb] at HW ⊢
 clear hrb
 have HRA := iD (kW As cs w11.heap.size m w11 (by rw [HLS.out]; exact HW.out.z.s) lR (by rw [HLS.out]; omega))
 rw [HLS.out] at HRA
 go_wp2_with fail
 refine HRA.out.mono ?_
 rintro e w12 ⟨⟨h1, -⟩ | ⟨-, AR, P, cR, rfl, hRW⟩, hb12⟩
 ·exact absurd (qY HME.out HD8.out) h1
 have HW2 := iD (HW.out.later hb12.out)
 have hP : P ≤ 256 := by have := rj (qY HME.out HD8.out); have := hRW.out.len; omega
 have HPL : Hid ((yM m).length = P) := hRW.out.len
 have HRW := iD hRW.out
 clear HRA HW hb12 hRW
 go_upto_region 14 with (fail)
 refine zv [(1, 0), (0, 1), (9, 0), (5, 1), (0, 0), (1, 1), (0, 0), (0, 1), (34, 0), (0, 2), (63, 1), (0, 0)] 59 (P) (FdR (fun W' => LmW w nb gb pb rb An Ad As none none Ax nn cn nd cd cs 0 0 0 0 nx cx ns ds m [] [] co nm xs A1 A2 A3 A4 n1 c1 n2 c2 n3 c3 n4 c4 R.o R.t W' ∧ yW W' W'.heap.size AR P cR (yM m)) P) (by (try dsimp only [gt]); exact ⟨0, rfl, Nat.zero_le _, rfl, ⟨HW2.out, HRW.out⟩⟩) (by kernel_rfl) ?_
 intro u1 p59 gk wr a hrel ha J1 K1 hJ1 hK1
 dsimp only [zZ, Go.Proofs.YtkkobemhbicjgaaGreatDoor.v1, Nat.reduceAdd] at ha
 subst ha
 clear HW2 HRW
 obtain ⟨i, rfl, hi, rfl, hM⟩ := hrel
 have HW := iD hM.out.1; have HRW := iD hM.out.2
 clear hM
 by_cases hlt : i < P; rotate_left
 ·have q0 : decide (i < P) = false := by simpa using hlt
  go_wp2_with fail
  clear q0
  refine (ri wr HW.out.z.n.la).mono ?_
  rintro e w9 ⟨rfl, hb⟩
  go_wp2_with fail
  go_ret
  exact ⟨rfl, HW.out.z.n.bl.trans (hb.mono HW.out.z.n.bl.size)⟩
 have q0 : decide (i < P) = true := by simpa using hlt
 obtain ⟨br, ofr, s, A', c', hAR, hbr, hs, hcr, hsr⟩ := HRW.out.at hlt
 have HAR := iD hAR
 have HSM := iD (List.mem_of_getElem? hs)
 have HSR := iD hsr
 clear hAR hbr hs hsr
 rw [HAR.out]
 go_upto_region 16 with (fail)
 clear hcr q0
 have HST := iD (vx HME.out HSM.out)
 have HSE : Hid (xp ns ds s co [] [] nm xs = 0) := kL HST.out HCK.out HCO.out HGL.out rfl HNB.out HXL.out HSPS.out.1
 have k0 := HW.out.z.n.bx.cell 0; have k1 := HW.out.z.n.bx.cell 1
 have g0 := HW.out.z.g.cell 0; have g1 := HW.out.z.g.cell 1; have g2 := HW.out.z.g.cell 2
 have p0 := HW.out.z.p.cell 0; have p1 := HW.out.z.p.cell 1
 go_wp2_with fail
 clear k0 k1 g0 g1 g2 p0 p1
 refine (iu An Ad A' none none Ax none nn cn nd cd s.length c' 0 0 0 0 nx cx 0 0 ns ds s [] [] co nm xs [] wr (HW.out.z.mem HNM.out HNMS.out HSR.out) (Sl.nil _ _ _)).mono ?_
 rintro e w13 ⟨⟨h1, -⟩ | ⟨-, C1, C2, C3, C4, q1, f1, q2, f2, q3, f3, q4, f4, rfl, hR⟩, hb⟩
 ·exact absurd HSE.out h1
 obtain ⟨hI, hB⟩ := si (co := co) HD8.out xs 0 [] [] ⟨m, [], []⟩ ⟨s, [], []⟩ HOK.out ⟨HSM.out, rfl, by simp⟩ (fun f hf => absurd hf (by simp)) HXA.out
 rw [← HRR.out] at hI hB
 obtain ⟨S, hS⟩ : ∃ S, S = yj ns ds co [] 0 [] ⟨s, [], []⟩ xs := ⟨_, rfl⟩
 rw [← hS] at hI hB hR ⊢
 have HI := iD hI
 have HBS : Hid (S.2.2 = nx → sy R.t S.2.1) := fun h => hB (by rw [h, HSPS.out.2]; omega)
 have HR13 := iD hR.out
 have HW13 := iD (HW.out.later hb.out)
 have HRW13 := iD ((HRW.out.below hb.out lR).more hb.out.size)
 have hd9 : S.2.2 ≤ 9223372036854775807 := by
  have := pE (ns := ns) (ds := ds) (co := co) [] xs 0 [] ⟨s, [], []⟩
  rw [← hS] at this; have := HSPS.out.2; omega
 clear hI hB hS hR hb HW HRW HSR HSE HST
 go_upto_region 17 with (fail)
 have HBL : Hid (Below w13.heap.size w13 (w13.alloc (.cells #[.int .i64 co, .slice C3 q3 f3, .slice C4 q4 f4] 37))) := (Below.refl _ _).alloc lR _
 have HXG := iD (Blk.new w13 37 #[.int .i64 co, .slice C3 q3 f3, .slice C4 q4 f4])
 have HR14 := iD (HR13.out.later8 HBL.out)
 have HW14 := iD (HW13.out.later HBL.out)
 have HRW14 := iD ((HRW13.out.below HBL.out lR).more HBL.out.size)
 clear HBL HR13 HW13 HRW13
 generalize World.alloc w13 _ = w14 at *
 obtain ⟨xg, hxg⟩ : ∃ x, x = w13.heap.size := ⟨_, rfl⟩
 rw [← hxg] at HXG ⊢
 clear hxg
 obtain ⟨M2, hM2⟩ : ∃ M2 : World → Prop, M2 = fun W' => (LmW w nb gb pb rb An Ad As none none Ax nn cn nd cd cs 0 0 0 0 nx cx ns ds m [] [] co nm xs A1 A2 A3 A4 n1 c1 n2 c2 n3 c3 n4 c4 R.o R.t W' ∧ yW W' W'.heap.size AR P cR (yM m)) ∧ vG W' C1 C2 C3 C4 q1 f1 q2 f2 q3 f3 q4 f4 S.1 S.2.1 ∧ Blk W' xg 37 #[.int .i64 co, .slice C3 q3 f3, .slice C4 q4 f4] := ⟨_, rfl⟩
 have HMK : Hid (∀ {W1 W2 : World}, M2 W1 → Below W1.heap.size W1 W2 → M2 W2) := by
  rw [hM2]; exact fun h hb => ⟨⟨h.1.1.later hb, (h.1.2.below hb lR).more hb.size⟩, h.2.1.later8 hb, h.2.2.below hb h.2.2.lt⟩
 have HMO : Hid (∀ W', M2 W' → (LmW w nb gb pb rb An Ad As none none Ax nn cn nd cd cs 0 0 0 0 nx cx ns ds m [] [] co nm xs A1 A2 A3 A4 n1 c1 n2 c2 n3 c3 n4 c4 R.o R.t W' ∧ yW W' W'.heap.size AR P cR (yM m)) ∧ vG W' C1 C2 C3 C4 q1 f1 q2 f2 q3 f3 q4 f4 S.1 S.2.1 ∧ Blk W' xg 37 #[.int .i64 co, .slice C3 q3 f3, .slice C4 q4 f4]) := fun W' h => by rw [hM2] at h; exact h
 have HMW : Hid (M2 w14) := by unfold Hid; rw [hM2]; exact ⟨⟨HW14.out, HRW14.out⟩, HR14.out, HXG.out⟩
 clear hM2 HXG HR14 HW14 HRW14
 have HQL : Hid (S.1.length = q1) := (HMO.out _ HMW.out).2.1.o.len (f := Fn.cells) (fun _ => rfl) (by decide)
 have HNL : Hid (R.o.length = n1) := (HMO.out _ HMW.out).1.1.o.o.len (f := Fn.cells) (fun _ => rfl) (by decide)
 have hq1 : q1 ≤ 9223372036854775807 := by have := (HMO.out _ HMW.out).2.1.o.le; omega
 have hn1 : n1 ≤ 9223372036854775807 := by have := (HMO.out _ HMW.out).1.1.o.o.le; omega
 go_upto_region 20 with (fail)
 refine zv [(1, 0), (0, 1), (16, 0), (1, 1), (0, 0), (0, 1), (53, 0), (0, 2), (22, 1), (22, 0)] 78 (q1) (FdR M2 q1) (by (try dsimp only [gt]); exact ⟨0, rfl, Nat.zero_le _, rfl, HMW⟩) (by kernel_rfl) ?_
 intro u2 p78 gk2 wr2 a hrel ha J2 K2 hJ2 hK2
 dsimp only [zZ, Go.Proofs.YtkkobemhbicjgaaGreatDoor.v1, Nat.reduceAdd] at ha
 subst ha
 clear HMW
 obtain ⟨j, rfl, hj, rfl, hM⟩ := hrel
 have HM := iD hM.out
 clear hM
 by_cases hjl : j < q1
 ·have u0 : decide (j < q1) = true := by simpa using hjl
  obtain ⟨bf, of, z1, z2, hCF, hbf, hf, hc1, hc2⟩ := (HMO.out _ HM.out).2.1.o.fnd hjl
  have HCF := iD hCF
  have HF : Hid (S.1[j]? = some ⟨z1, z2⟩) := hf
  have HIN := iD (jQ HI.out (List.mem_of_getElem? hf))
  clear hCF hbf hf
  rw [HCF.out]
  go_upto_region 22 with (fail)
  clear hc1 hc2 u0
  have HBL : Hid (Below wr2.heap.size wr2 (wr2.alloc (.cells #[.int .i64 z1, .int .i64 z2] 53))) := (Below.refl _ _).alloc lR _
  have HFB := iD (Blk.new wr2 53 #[.int .i64 z1, .int .i64 z2])
  have HMn := iD (HMK.out HM.out HBL.out)
  clear HM HBL
  generalize World.alloc wr2 _ = X at *
  obtain ⟨xb, hxb⟩ : ∃ x, x = wr2.heap.size := ⟨_, rfl⟩
  rw [← hxb] at HFB ⊢
  clear hxb
  have v0 := HFB.out.c0
  have v1 := HFB.out.c1
  have r0 := (HMO.out _ HMn.out).1.1.b.cell 0
  obtain ⟨U, hU⟩ : ∃ U, U = (z2 == 7) := ⟨_, rfl⟩
  have HU : Hid ((U || R.o.any fun y => Fn.eqB ⟨z1, z2⟩ y) = true) := by rw [hU]; exact HIN.out
  have hu := hU.symm
  clear hU HIN
  go_upto_region 24 with (fail)
  clear v0 v1 r0 hu
  refine wZ [(20, 0), (0, 3), (0, 0), (0, 1), (63, 0), (0, 2), (9, 1), (25, 0)] 88 21 (n1) (FdH (fun W' => M2 W' ∧ Blk W' xb 53 #[.int .i64 z1, .int .i64 z2]) U R.o (fun y => Fn.eqB ⟨z1, z2⟩ y) n1) (by (try dsimp only [gt]); exact ⟨0, rfl, Nat.zero_le _, rfl, by simp, ⟨HMn.out, HFB.out⟩⟩) (by kernel_rfl) ?_
  intro u3 p88 p21 gk3 wr3 a hrel ha J3 K3 hJ3 hK3
  dsimp only [zZ, Go.Proofs.YtkkobemhbicjgaaGreatDoor.v2, Nat.reduceAdd] at ha
  subst ha
  clear HMn HFB
  obtain ⟨t, rfl, ht, rfl, rfl, hM⟩ := hrel
  have HM := iD hM.out.1; have HFB := iD hM.out.2
  clear hM
  by_cases htl : t < n1
  ·have u0 : decide (t < n1) = true := by simpa using htl
   obtain ⟨ba, oa, y1, y2, hA1, hba, hf, hc1, hc2⟩ := (HMO.out _ HM.out).1.1.o.o.fnd htl
   have HA1 := iD hA1
   have HY : Hid (R.o[t]? = some ⟨y1, y2⟩) := hf
   clear hA1 hba hf
   rw [HA1.out]
   go_upto_region 26 with (fail)
   clear hc1 hc2 u0
   have HBL : Hid (Below wr3.heap.size wr3 (wr3.alloc (.cells #[.int .i64 y1, .int .i64 y2] 53))) := (Below.refl _ _).alloc lR _
   have HYB := iD (Blk.new wr3 53 #[.int .i64 y1, .int .i64 y2])
   have HMn := iD (HMK.out HM.out HBL.out)
   have HFn := iD (HFB.out.below HBL.out HFB.out.lt)
   clear HM HFB HBL
   generalize World.alloc wr3 _ = Y at *
   obtain ⟨yb, hyb⟩ : ∃ x, x = wr3.heap.size := ⟨_, rfl⟩
   rw [← hyb] at HYB ⊢
   clear hyb
   have v0 := HFn.out.c0
   have v1 := HFn.out.c1
   have e0 := HYB.out.c0
   have e1' : Y.cell? ⟨yb, 1, none⟩ = some (.int .i64 y2) := HYB.out.cell 1
   have hq := ol z1 z2 y1 y2
   have HA : Hid ((R.o.take (t + 1)).any (fun y => Fn.eqB ⟨z1, z2⟩ y) = ((R.o.take t).any (fun y => Fn.eqB ⟨z1, z2⟩ y) || Fn.eqB ⟨z1, z2⟩ ⟨y1, y2⟩)) := ik HY.out
   generalize (R.o.take t).any (fun y => Fn.eqB ⟨z1, z2⟩ y) = T1 at *
   generalize Fn.eqB ⟨z1, z2⟩ ⟨y1, y2⟩ = U1 at *
   have hkk : IntKind.i64.wrap ((t : Int) + 1) = (t : Int) + 1 := IntWalk.i64_in _ (by omega)
   rcases U with _ | _ <;> rcases T1 with _ | _
   all_goals
    go_wp2_with fail
    rw [← HA1.out]
    refine Handed.intro (n1 - (t + 1)) (by omega) (hJ3 _ _ _ (qh.back 88 21 ?_ (by kernel_rfl)))
    dsimp only [gt]
    exact ⟨t + 1, by go_num, by omega, rfl, by rw [HA.out]; rfl, ⟨HMn.out, HFn.out⟩⟩
  have u0 : decide (t < n1) = false := by simpa using htl
  have htn : t = n1 := by omega
  rw [show (U || (R.o.take t).any fun y => Fn.eqB ⟨z1, z2⟩ y) = true by rw [List.take_of_length_le (by rw [HNL.out]; omega)]; exact HU.out]
  have hkk : IntKind.i64.wrap ((j : Int) + 1) = (j : Int) + 1 := IntWalk.i64_in _ (by omega)
  clear htn
  go_wp2_with fail
  rw [← HCF.out]
  refine Handed.intro (q1 - (j + 1)) (by omega) (hJ2 _ _ _ (yw.back 78 ?_ (by kernel_rfl)))
  dsimp only [gt]
  exact ⟨j + 1, by go_num, by omega, rfl, HM⟩
 have u0 : decide (j < q1) = false := by simpa using hjl
 have p1 := (HMO.out _ HM.out).1.1.z.p.cell 1
 have hkk : IntKind.i64.wrap ((i : Int) + 1) = (i : Int) + 1 := IntWalk.i64_in _ (by omega)
 by_cases hdn : S.2.2 = nx; rotate_left
 ·have u1 : ((S.2.2 : Int) == (nx : Int)) = false := by simp; omega
  go_wp2_with fail
  clear p1 u0
  rw [← HAR.out]
  refine Handed.intro (P - (i + 1)) (by omega) (hJ1 _ _ _ (yw.back 59 ?_ (by kernel_rfl)))
  dsimp only [gt]
  exact ⟨i + 1, by go_num, by omega, rfl, (HMO.out _ HM.out).1⟩
 have u1 : ((S.2.2 : Int) == (nx : Int)) = true := by simp; omega
 have HBE := iD (HBS.out hdn)
 have r1 := (HMO.out _ HM.out).1.1.b.cell 1
 go_wp2_with fail
 clear p1 r1 u0 u1
 have HMA : Hid (R.t.s.all zj = true) := by
  have h := (oD HD8.out xs 0 [] ⟨m, [], []⟩ HOK.out HXA.out (co := co)).s
  rw [← HRR.out] at h
  exact List.all_eq_true.2 (zV h).2.2
 have HQ2 : Hid (q2 = n2) := by
  have h1 : S.2.1.s.length = q2 := (HMO.out _ HM.out).2.1.s.len (fun _ => rfl) (by decide)
  have h2 : R.t.s.length = n2 := (HMO.out _ HM.out).1.1.o.s.len (fun _ => rfl) (by decide)
  have := ur HBE.out.s
  unfold Hid; omega
 rw [HQ2.out]
 refine (oG C2 A2 n2 f2 c2 wr2.heap.size wr2.heap.size S.2.1.s R.t.s wr2 (by rw [← HQ2.out]; exact (HMO.out _ HM.out).2.1.s) lR (HMO.out _ HM.out).1.1.o.s lR HMA.out HBE.out.s).mono ?_
 rintro e v1 ⟨rfl, hb⟩
 have HN := iD (HMK.out HM.out hb)
 clear hb HM
 have x1 := (HMO.out _ HN.out).2.2.cell 1
 have r3 := (HMO.out _ HN.out).1.1.b.cell 3
 go_wp2_with fail
 clear x1 r3
 refine (kS C3 A3 q3 f3 n3 c3 v1.heap.size v1.heap.size S.2.1.ls R.t.ls v1 (HMO.out _ HN.out).2.1.l (HMO.out _ HN.out).1.1.o.l lR lR).mono ?_
 rintro e v2 ⟨rfl, hb⟩
 have HN2 := iD (HMK.out HN.out hb)
 clear hb HN
 rw [gf (p := S.2.1.ls = R.t.ls) HBE.out.l]
 go_wp2_with fail
 rw [← HAR.out]
 refine Handed.intro (P - (i + 1)) (by omega) (hJ1 _ _ _ (yw.back 59 ?_ (by kernel_rfl)))
 dsimp only [gt]
 exact ⟨i + 1, by go_num, by omega, rfl, (HMO.out _ HN2.out).1⟩
end Go.Proofs.YtkkobemhbicjgaaGreatDoor
