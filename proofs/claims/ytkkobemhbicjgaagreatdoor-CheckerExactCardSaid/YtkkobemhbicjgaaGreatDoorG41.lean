import Derived.Test.YtkkobemhbicjgaaGreatDoorG40
import Derived.Test.YtkkobemhbicjgaaGreatDoorG39
import Derived.Test.YtkkobemhbicjgaaGreatDoorG37
set_option maxRecDepth 100000
set_option maxHeartbeats 32000000
namespace Go.Proofs.YtkkobemhbicjgaaGreatDoor
open Go.RowKit
theorem exact_any {ns : List Nd} {ds : List Dv} {m pr : List Int} {co : Int} {xs : List Sp} {R : Cr} (hr : R = chRun ns ds co 0 [] ⟨m, [], pr⟩ xs) (hok : ChOk ns ds ⟨m, [], pr⟩) (hx : ∀ x ∈ xs, spErr ns.length ds.length x = 0) {z1 z2 : Int} (hf : (⟨z1, z2⟩ : Fn) ∈ R.o) (h7 : z2 ≠ 7) (h5 : z2 ≠ 5) :
 (allOf m).any (fun s => (smRun ns ds co [] 0 [] ⟨s, [], pr⟩ xs).1.any fun y => Fn.eqB ⟨z1, z2⟩ y) = true := by
 subst hr
 obtain ⟨s, hs, hu⟩ := exact_run xs 0 [] ⟨m, [], pr⟩ hok hx _ hf (by simp) h7 h5
 rw [List.any_eq_true]
 refine ⟨s, hs, ?_⟩
 rw [List.any_eq_true]
 exact ⟨_, hu ⟨s, [], pr⟩ rfl rfl [], by unfold Fn.eqB; simp⟩
theorem walk_CheckerExact (w : World) (hl : Laid w) (A : Option Addr) (n c : Nat) (zs : List Int) (hs : Sl w w.heap.size 1 A n c (intsV zs)) (_hz : ∀ z ∈ zs, (Lit.int .i64 z).wf = true) :
 Calls Tryz.prog 9 #[.slice A n c] w fun e w' => e = .returned (.bool true) ∧ Below w.heap.size w w' := by
 have hnm := hs.le
 have HL := Lib.hid hl; have HS := Lib.hid hs
 clear hl hs _hz
 have HF := Lib.hid (few_any A n c w (by omega))
 rcases hf : decide (n ≤ 400) with _ | _
 ·rw [hf] at HF
  clear hf
  go_enter Tryz.func9, Tryz.ntmps9
  go_wp2_with fail
  refine HF.out.mono ?_
  rintro e w1 ⟨rfl, rfl⟩
  go_wp2_with fail
  refine (awake_any w HL.out).mono ?_
  rintro e w1 ⟨rfl, hb⟩
  go_wp2_with fail
  go_ret
  exact ⟨rfl, hb⟩
 rw [hf] at HF
 clear hf
 go_enter Tryz.func9, Tryz.ntmps9
 go_wp2_with fail
 refine HF.out.mono ?_
 rintro e w1 ⟨rfl, rfl⟩
 go_wp2_with fail
 refine (new_any A n c w.heap.size zs w HS.out (Nat.le_refl _)).mono ?_
 rintro e w1 ⟨rfl, hd1, hb1, hs1⟩
 go_wp2_with fail
 refine (mknet_any w.heap.size 5 8 w1 hd1.out (by decide) (by decide)).mono ?_
 rintro e w2 ⟨An, nn, cn, ns, Ad, nd, cd, ds, rfl, hd2, hg2, hrn, hrd, hmade⟩
 have HMK := LwN.mk0 HL.out hb1.out hs1.out hd2.out hg2.out hrn.out hrd.out hmade.out
 have HNN := Lib.hid HMK.2.1; have HND := Lib.hid HMK.2.2
 have HN3 := Lib.hid HMK.1
 have HMA := Lib.hid hmade.out
 have hnd : nd ≤ 8 := by have := hmade.out.dm; rw [HND.out] at this; omega
 have hnd1 : 1 ≤ nd := by have := hmade.out.d1; rw [HND.out] at this; omega
 have hnn : nn ≤ 5 := by have := hmade.out.nm; rw [HNN.out] at this; omega
 have HNM := Lib.hid HMA.out.names
 have HCK := Lib.hid (HMA.out.check (by decide) (by decide))
 clear HMK hd1 hb1 hs1 hd2 hg2 hrn hrd hmade HS HF
 go_wp2_with fail
 generalize World.alloc _ _ = w3 at *
 obtain ⟨nb, hnb⟩ : ∃ nb, nb = w2.heap.size := ⟨_, rfl⟩
 rw [← hnb] at HN3 ⊢
 clear hnb
 have hnn1 : 2 ≤ nn := by have := HMA.out.n2; rw [HNN.out] at this; exact this
 refine (mkmasks_any w.heap.size An Ad nn cn nd cd 4 ds w3 HN3.out.dk HN3.out.hd (by omega) (by decide)).mono ?_
 rintro e w5 ⟨As, cs, m, rfl, hd5, hg5, hO5, hmb, hcn⟩
 have HN5 := Lib.hid (HN3.out.grown HL.out hg5.out hd5.out)
 have HX5 : Hid (SlX w5 w.heap.size 1 As nd cs (intsV m)) := SlX.of_own hO5.out (by have := HN3.out.bl.size; have := HN3.out.bx.lt; have := HN3.out.ge; omega)
 have HLS : Hid (m.length = nd) := hO5.out.len
 have HME : Hid (maskErr ns ds m = 0) := by unfold Hid maskErr; rw [if_neg (by rw [HCK.out]; simp), if_neg (by rw [HLS.out, HND.out]; simp), if_pos hmb.out]
 have HMB : Hid (m.all maskB = true) := List.all_eq_true.2 hmb.out
 clear hd5 hg5 hO5 hmb hcn HN3
 have k0 := HN5.out.bx.cell 0; have k1 := HN5.out.bx.cell 1
 go_wp2_with fail
 clear k0 k1
 refine (mkgroundz_any w.heap.size An Ad none nn cn nd cd 0 0 w5 HN5.out.dk (by omega)).mono ?_
 rintro e w6 ⟨co, Ap, np, cp, pr, rfl, hco, hd6, hg6, hO6, hri⟩
 have HN6 := Lib.hid (HN5.out.grown HL.out hg6.out hd6.out)
 have HX6 := Lib.hid (HX5.out.grown hg6.out)
 have HP6 : Hid (SlX w6 w.heap.size 1 Ap np cp (intsV pr)) := SlX.of_own hO6.out HN5.out.dk.lt
 have HRI : Hid (risL ns.length (-1) pr = true) := by unfold Hid; rw [HNN.out]; exact hri.out.2
 have HCO := Lib.hid hco
 clear hco hd6 hg6 hO6 hri HN5 HX5
 go_upto_region 7 with (fail)
 have HBL : Hid (Below w6.heap.size w6 (w6.alloc (.cells #[.int .i64 co, .slice none 0 0, .slice Ap np cp] 37))) := (Below.refl _ _).alloc (Nat.le_refl _) _
 have HG7 : Hid (Blk (w6.alloc (.cells #[.int .i64 co, .slice none 0 0, .slice Ap np cp] 37)) w6.heap.size 37 #[.int .i64 co, .slice none 0 0, .slice Ap np cp]) := Blk.new w6 _ _
 have HN7 := Lib.hid (HN6.out.later HBL.out)
 have HX7 := Lib.hid (HX6.out.below HBL.out)
 have HP7 := Lib.hid (HP6.out.below HBL.out)
 have hgb7 : w.heap.size < w6.heap.size := HN6.out.dk.lt
 clear HN6 HX6 HP6 HBL
 generalize World.alloc w6 _ = w7 at *
 obtain ⟨gb, hgb⟩ : ∃ x, x = w6.heap.size := ⟨_, rfl⟩
 rw [← hgb] at HG7 hgb7 ⊢
 clear hgb
 have k0 := HN7.out.bx.cell 0; have k1 := HN7.out.bx.cell 1
 go_wp2_with fail
 clear k0 k1
 refine (mkprog_any w.heap.size An Ad nn cn nd cd 7 w7 HN7.out.dk (by omega) (by omega) (by omega) (by omega) (by decide)).mono ?_
 rintro e w8 ⟨nm, Ax, nx, cx, xs, rfl, hnm, hsp, hO8, hd8, hg8⟩
 have HN8 := Lib.hid (HN7.out.grown HL.out hg8.out hd8.out)
 have HX8 := Lib.hid (HX7.out.grown hg8.out)
 have HG8 := Lib.hid (HG7.out.grown hg8.out (fun e => by injection e; omega))
 have HP8 := Lib.hid (HP7.out.grown hg8.out)
 have HOX : Hid (SlX w8 w.heap.size 5 Ax nx cx (xs.flatMap Sp.cells)) := SlX.of_own hO8.out HN7.out.dk.lt
 have HNB : Hid (nameB (toL nm) = true) := hnm.out
 have HNMS : Hid (nm.size ≤ 9223372036854775807) := by
  have h := hnm.out
  unfold nameB at h
  simp only [Bool.and_eq_true, decide_eq_true_eq, toL_len] at h
  have := h.2; unfold Hid; omega
 have HSPS : Hid (spsErr ns.length ds.length xs = 0 ∧ xs.length = nx) := by unfold Hid; rw [HNN.out, HND.out]; exact ⟨hsp.out.1, hsp.out.2.1⟩
 have hnx : nx ≤ 7 := hsp.out.2.2
 clear hnm hsp hO8 hd8 hg8 HN7 HX7 HG7 HP7
 go_upto_region 8 with (fail)
 have HBL : Hid (Below w8.heap.size w8 (w8.alloc (.cells #[.string nm, .slice Ax nx cx] 41))) := (Below.refl _ _).alloc (Nat.le_refl _) _
 have HM9 : Hid (LmM w nb gb w8.heap.size An Ad As none Ap Ax nn cn nd cd cs 0 0 np cp nx cx ns ds m [] pr co nm xs (w8.alloc (.cells #[.string nm, .slice Ax nx cx] 41))) := ⟨HN8.out.later HBL.out, (HX8.out.below HBL.out).1, HG8.out.below HBL.out HG8.out.lt, Sl.nil _ _ _, (HP8.out.below HBL.out).1, Blk.new w8 _ _, (HOX.out.below HBL.out).1⟩
 clear HBL HN8 HX8 HG8 HOX HP8
 generalize World.alloc w8 _ = w9 at *
 obtain ⟨pb, hpb⟩ : ∃ x, x = w8.heap.size := ⟨_, rfl⟩
 rw [← hpb] at HM9 ⊢
 clear hpb
 have HD8 : Hid (ds.length ≤ 8) := by have := HND.out; unfold Hid; omega
 have HGL : Hid (GoodL ds []) := ⟨by simp, by simp, List.Pairwise.nil⟩
 have HXL : Hid (xs.length ≤ 64) := by have := HSPS.out.2; unfold Hid; omega
 have HXA := Lib.hid (spsErr_all HSPS.out.1)
 have HEA : Hid (chErr ns ds m co [] pr nm xs = 0) := ch_made HME.out HCO.out HGL.out HRI.out HNB.out HXL.out HXA.out
 have HOK : Hid (ChOk ns ds ⟨m, [], pr⟩) := ⟨HME.out, sm_locks HCK.out HGL.out, HRI.out⟩
 have k0 := HM9.out.n.bx.cell 0; have k1 := HM9.out.n.bx.cell 1
 have g0 := HM9.out.g.cell 0; have g1 := HM9.out.g.cell 1; have g2 := HM9.out.g.cell 2
 have p0 := HM9.out.p.cell 0; have p1 := HM9.out.p.cell 1
 go_wp2_with fail
 clear k0 k1 g0 g1 g2 p0 p1
 refine (chRun_any An Ad As none Ap Ax nn cn nd cd nd cs 0 0 np cp nx cx ns ds m [] pr co nm xs w9 (HM9.out.mem HNM.out HNMS.out HM9.out.s)).mono ?_
 intro e w10 hpost
 obtain ⟨A1, A2, A3, A4, n1, c1, n2, c2, n3, c3, n4, c4, rfl, hR, hb10⟩ := hpost.okay HEA.out (chRun_e HD8.out _ _ _ _ HOK.out HXA.out)
 obtain ⟨R, hRR⟩ : ∃ R, R = chRun ns ds co 0 [] ⟨m, [], pr⟩ xs := ⟨_, rfl⟩
 rw [← hRR] at hR
 have HRR := Lib.hid hRR
 have HR10 := Lib.hid hR.out
 have HM10 := Lib.hid (HM9.out.later hb10.out)
 clear hpost hR hRR hb10 HM9
 go_upto_region 9 with (fail)
 have HBL : Hid (Below w10.heap.size w10 (w10.alloc (.cells #[.slice A1 n1 c1, .slice A2 n2 c2, .int .i64 co, .slice A3 n3 c3, .slice A4 n4 c4] 47))) := (Below.refl _ _).alloc (Nat.le_refl _) _
 have HW : Hid (LmW w nb gb pb w10.heap.size An Ad As none Ap Ax nn cn nd cd cs 0 0 np cp nx cx ns ds m [] pr co nm xs A1 A2 A3 A4 n1 c1 n2 c2 n3 c3 n4 c4 R.o R.t (w10.alloc (.cells #[.slice A1 n1 c1, .slice A2 n2 c2, .int .i64 co, .slice A3 n3 c3, .slice A4 n4 c4] 47))) := ⟨HM10.out.later HBL.out, Blk.new w10 _ _, HR10.out.later8 HBL.out⟩
 clear HM10 HR10 HBL
 generalize World.alloc w10 _ = w11 at *
 obtain ⟨rb, hrb⟩ : ∃ x, x = w10.heap.size := ⟨_, rfl⟩
 rw [← hrb] at HW ⊢
 clear hrb
 have HRA := Lib.hid (rall_any As cs w11.heap.size m w11 (by rw [HLS.out]; exact HW.out.z.s) (Nat.le_refl _) (by rw [HLS.out]; omega))
 rw [HLS.out] at HRA
 go_wp2_with fail
 refine HRA.out.mono ?_
 rintro e w12 ⟨⟨h1, -⟩ | ⟨-, AR, P, cR, rfl, hRW⟩, hb12⟩
 ·exact absurd (cErr_ok HME.out HD8.out) h1
 have HW2 := Lib.hid (HW.out.later hb12.out)
 have hP : P ≤ 256 := by have := allOf_len (cErr_ok HME.out HD8.out); have := hRW.out.len; omega
 have HPL : Hid ((allOf m).length = P) := hRW.out.len
 have HRW := Lib.hid hRW.out
 clear HRA HW hb12 hRW
 have r0 := HW2.out.b.cell 0
 have HNL : Hid (R.o.length = n1) := HW2.out.o.o.len (f := Fn.cells) (fun _ => rfl) (by decide)
 have hn1 : n1 ≤ 9223372036854775807 := by have := HW2.out.o.o.le; omega
 go_upto_region 13 with (fail)
 clear r0
 refine wp_loop_u1 [(1, 0), (0, 1), (9, 0), (1, 1), (0, 0), (5, 1), (0, 0), (0, 1), (34, 0), (0, 2), (46, 1), (0, 0)] 59 (n1) (FdR (fun W' => LmW w nb gb pb rb An Ad As none Ap Ax nn cn nd cd cs 0 0 np cp nx cx ns ds m [] pr co nm xs A1 A2 A3 A4 n1 c1 n2 c2 n3 c3 n4 c4 R.o R.t W' ∧ RowsAt W' W'.heap.size AR P cR (allOf m)) n1) (by (try dsimp only [gt]); exact ⟨0, rfl, Nat.zero_le _, rfl, ⟨HW2.out, HRW.out⟩⟩) (by kernel_rfl) ?_
 intro u1 p59 gk wr a hrel ha J1 K1 hJ1 hK1
 dsimp only [relaxR, Go.Proofs.YtkkobemhbicjgaaGreatDoor.v1, Nat.reduceAdd] at ha
 subst ha
 clear HW2 HRW
 obtain ⟨i, rfl, hi, rfl, hM⟩ := hrel
 have HW := Lib.hid hM.out.1; have HRW := Lib.hid hM.out.2
 clear hM
 by_cases hlt : i < n1; rotate_left
 ·have q0 : decide (i < n1) = false := by simpa using hlt
  go_wp2_with fail
  clear q0
  refine (awake_any wr HW.out.z.n.la).mono ?_
  rintro e w9 ⟨rfl, hb⟩
  go_wp2_with fail
  go_ret
  exact ⟨rfl, HW.out.z.n.bl.trans (hb.mono HW.out.z.n.bl.size)⟩
 have q0 : decide (i < n1) = true := by simpa using hlt
 obtain ⟨bf, of, z1, z2, hCF, hbf, hf, hc1, hc2⟩ := HW.out.o.o.fnd hlt
 have HCF := Lib.hid hCF
 have HF : Hid ((⟨z1, z2⟩ : Fn) ∈ R.o) := List.mem_of_getElem? hf
 clear hCF hbf hf
 rw [HCF.out]
 go_upto_region 15 with (fail)
 clear hc1 hc2 q0
 have HBL : Hid (Below wr.heap.size wr (wr.alloc (.cells #[.int .i64 z1, .int .i64 z2] 53))) := (Below.refl _ _).alloc (Nat.le_refl _) _
 have HFB := Lib.hid (Blk.new wr 53 #[.int .i64 z1, .int .i64 z2])
 have HWn := Lib.hid (HW.out.later HBL.out)
 have HRn := Lib.hid ((HRW.out.below HBL.out (Nat.le_refl _)).more HBL.out.size)
 clear HW HRW HBL
 generalize World.alloc wr _ = X at *
 obtain ⟨xb, hxb⟩ : ∃ x, x = wr.heap.size := ⟨_, rfl⟩
 rw [← hxb] at HFB ⊢
 clear hxb
 have v1 := HFB.out.c1
 have hki : IntKind.i64.wrap ((i : Int) + 1) = (i : Int) + 1 := IntWalk.i64_in _ (by omega)
 by_cases h7 : z2 = 7
 ·have u1 : (z2 == 7) = true := by simp [h7]
  go_wp2_with fail
  rw [← HCF.out]
  refine Handed.intro (n1 - (i + 1)) (by omega) (hJ1 _ _ _ (LpI1.back 59 ?_ (by kernel_rfl)))
  dsimp only [gt]
  exact ⟨i + 1, by go_num, by omega, rfl, ⟨HWn.out, HRn.out⟩⟩
 have u1 : (z2 == 7) = false := by simpa using h7
 by_cases h5 : z2 = 5
 ·have u2 : (z2 == 5) = true := by simp [h5]
  clear h7
  go_wp2_with fail
  rw [← HCF.out]
  refine Handed.intro (n1 - (i + 1)) (by omega) (hJ1 _ _ _ (LpI1.back 59 ?_ (by kernel_rfl)))
  dsimp only [gt]
  exact ⟨i + 1, by go_num, by omega, rfl, ⟨HWn.out, HRn.out⟩⟩
 have u2 : (z2 == 5) = false := by simpa using h5
 have HAL := Lib.hid (exact_any HRR.out HOK.out HXA.out HF.out h7 h5)
 clear h7 h5
 go_upto_region 18 with (fail)
 clear u1 u2 v1
 obtain ⟨M2, hM2⟩ : ∃ M2 : World → Prop, M2 = fun W' => (LmW w nb gb pb rb An Ad As none Ap Ax nn cn nd cd cs 0 0 np cp nx cx ns ds m [] pr co nm xs A1 A2 A3 A4 n1 c1 n2 c2 n3 c3 n4 c4 R.o R.t W' ∧ RowsAt W' W'.heap.size AR P cR (allOf m)) ∧ Blk W' xb 53 #[.int .i64 z1, .int .i64 z2] := ⟨_, rfl⟩
 have HMK : Hid (∀ {W1 W2 : World}, M2 W1 → Below W1.heap.size W1 W2 → M2 W2) := by
  rw [hM2]; exact fun h hb => ⟨⟨h.1.1.later hb, (h.1.2.below hb (Nat.le_refl _)).more hb.size⟩, h.2.below hb h.2.lt⟩
 have HMO : Hid (∀ W', M2 W' → (LmW w nb gb pb rb An Ad As none Ap Ax nn cn nd cd cs 0 0 np cp nx cx ns ds m [] pr co nm xs A1 A2 A3 A4 n1 c1 n2 c2 n3 c3 n4 c4 R.o R.t W' ∧ RowsAt W' W'.heap.size AR P cR (allOf m)) ∧ Blk W' xb 53 #[.int .i64 z1, .int .i64 z2]) := fun W' h => by rw [hM2] at h; exact h
 have HMW : Hid (M2 X) := by unfold Hid; rw [hM2]; exact ⟨⟨HWn.out, HRn.out⟩, HFB.out⟩
 clear hM2 HFB HWn HRn
 refine wp_loop_u2 [(1, 0), (0, 1), (10, 0), (0, 3), (0, 0), (5, 1), (0, 0), (0, 1), (48, 0), (0, 2), (29, 1), (3, 0)] 73 14 (P) (FdH M2 false (allOf m) (fun s => (smRun ns ds co [] 0 [] ⟨s, [], pr⟩ xs).1.any fun y => Fn.eqB ⟨z1, z2⟩ y) P) (by (try dsimp only [gt]); exact ⟨0, rfl, Nat.zero_le _, rfl, by simp, HMW⟩) (by kernel_rfl) ?_
 intro u2 p73 p14 gk2 wr2 a hrel ha J2 K2 hJ2 hK2
 dsimp only [relaxR, Go.Proofs.YtkkobemhbicjgaaGreatDoor.v2, Nat.reduceAdd] at ha
 subst ha
 clear HMW
 obtain ⟨j, rfl, hj, rfl, rfl, hM⟩ := hrel
 have HM := Lib.hid hM.out
 clear hM
 by_cases hjl : j < P; rotate_left
 ·have u0 : decide (j < P) = false := by simpa using hjl
  rw [show (false || ((allOf m).take j).any (fun s => (smRun ns ds co [] 0 [] ⟨s, [], pr⟩ xs).1.any fun y => Fn.eqB ⟨z1, z2⟩ y)) = true by rw [List.take_of_length_le (by rw [HPL.out]; omega)]; exact HAL.out]
  go_wp2_with fail
  rw [← HCF.out]
  refine Handed.intro (n1 - (i + 1)) (by omega) (hJ1 _ _ _ (LpI1.back 59 ?_ (by kernel_rfl)))
  dsimp only [gt]
  exact ⟨i + 1, by go_num, by omega, rfl, (HMO.out _ HM.out).1⟩
 have u0 : decide (j < P) = true := by simpa using hjl
 obtain ⟨br, ofr, s, A', c', hAR, hbr, hs, hcr, hsr⟩ := (HMO.out _ HM.out).1.2.at hjl
 have HAR := Lib.hid hAR
 have HSJ : Hid ((allOf m)[j]? = some s) := hs
 have HSR := Lib.hid hsr
 clear hAR hbr hs hsr
 rw [HAR.out]
 go_upto_region 20 with (fail)
 clear hcr u0
 have HST := Lib.hid (state_of_mask HME.out (List.mem_of_getElem? HSJ.out))
 have HSE : Hid (smErr ns ds s co [] pr nm xs = 0) := sm_mades HST.out HCK.out HCO.out HGL.out HRI.out HNB.out HXL.out HSPS.out.1
 have HZ := Lib.hid (HMO.out _ HM.out).1.1.z
 have k0 := HZ.out.n.bx.cell 0; have k1 := HZ.out.n.bx.cell 1
 have g0 := HZ.out.g.cell 0; have g1 := HZ.out.g.cell 1; have g2 := HZ.out.g.cell 2
 have p0 := HZ.out.p.cell 0; have p1 := HZ.out.p.cell 1
 go_wp2_with fail
 clear k0 k1 g0 g1 g2 p0 p1
 refine (Run_any An Ad A' none Ap Ax none nn cn nd cd s.length c' 0 0 np cp nx cx 0 0 ns ds s [] pr co nm xs [] wr2 (HZ.out.mem HNM.out HNMS.out HSR.out) (Sl.nil _ _ _)).mono ?_
 rintro e w13 ⟨⟨h1, -⟩ | ⟨-, C1, C2, C3, C4, q1, f1, q2, f2, q3, f3, q4, f4, rfl, hR⟩, hb⟩
 ·exact absurd HSE.out h1
 obtain ⟨S, hS⟩ : ∃ S, S = smRun ns ds co [] 0 [] ⟨s, [], pr⟩ xs := ⟨_, rfl⟩
 rw [← hS] at hR ⊢
 have HSS : Hid ((fun s => (smRun ns ds co [] 0 [] ⟨s, [], pr⟩ xs).1.any fun y => Fn.eqB ⟨z1, z2⟩ y) s = S.1.any fun y => Fn.eqB ⟨z1, z2⟩ y) := by unfold Hid; rw [hS]
 have HR13 := Lib.hid hR.out.o
 have HM13 := Lib.hid (HMK.out HM.out hb.out)
 have hd9 : S.2.2 ≤ 9223372036854775807 := by
  have := smRun_le (ns := ns) (ds := ds) (co := co) [] xs 0 [] ⟨s, [], pr⟩
  rw [← hS] at this; have := HSPS.out.2; omega
 clear hS hR hb HM HSR HSE HST HZ
 have HQL : Hid (S.1.length = q1) := HR13.out.len (f := Fn.cells) (fun _ => rfl) (by decide)
 have hq1 : q1 ≤ 9223372036854775807 := by have := HR13.out.le; omega
 have HA : Hid (((allOf m).take (j + 1)).any (fun s => (smRun ns ds co [] 0 [] ⟨s, [], pr⟩ xs).1.any fun y => Fn.eqB ⟨z1, z2⟩ y) = (((allOf m).take j).any (fun s => (smRun ns ds co [] 0 [] ⟨s, [], pr⟩ xs).1.any fun y => Fn.eqB ⟨z1, z2⟩ y) || (fun s => (smRun ns ds co [] 0 [] ⟨s, [], pr⟩ xs).1.any fun y => Fn.eqB ⟨z1, z2⟩ y) s)) := any_snc HSJ.out
 generalize ((allOf m).take j).any (fun s => (smRun ns ds co [] 0 [] ⟨s, [], pr⟩ xs).1.any fun y => Fn.eqB ⟨z1, z2⟩ y) = U at *
 go_upto_region 24 with (fail)
 have HBL : Hid (Below w13.heap.size w13 (w13.alloc (.cells #[.int .i64 co, .slice C3 q3 f3, .slice C4 q4 f4] 37))) := (Below.refl _ _).alloc (Nat.le_refl _) _
 have HR14 := Lib.hid ((HR13.out.below HBL.out (Nat.le_refl _)).more HBL.out.size)
 have HM14 := Lib.hid (HMK.out HM13.out HBL.out)
 clear HBL HR13 HM13
 generalize World.alloc w13 _ = w14 at *
 refine wp_loop_u2 [(13, 0), (0, 3), (7, 0), (0, 1), (67, 0), (0, 2), (9, 1), (4, 0)] 92 14 (q1) (FdH (fun W' => M2 W' ∧ Sl W' W'.heap.size 2 C1 q1 f1 (S.1.flatMap Fn.cells)) U S.1 (fun y => Fn.eqB ⟨z1, z2⟩ y) q1) (by (try dsimp only [gt]); exact ⟨0, rfl, Nat.zero_le _, rfl, by simp, ⟨HM14.out, HR14.out⟩⟩) (by kernel_rfl) ?_
 intro u3 p92 p14 gk3 wr3 a hrel ha J3 K3 hJ3 hK3
 dsimp only [relaxR, Go.Proofs.YtkkobemhbicjgaaGreatDoor.v2, Nat.reduceAdd] at ha
 subst ha
 clear HM14 HR14
 obtain ⟨t, rfl, ht, rfl, rfl, hM⟩ := hrel
 have HM := Lib.hid hM.out.1; have HFS := Lib.hid hM.out.2
 clear hM
 by_cases htl : t < q1
 ·have u0 : decide (t < q1) = true := by simpa using htl
  obtain ⟨ba, oa, y1, y2, hA1, hba, hf, hc1, hc2⟩ := HFS.out.fnd htl
  have HA1 := Lib.hid hA1
  have HY : Hid (S.1[t]? = some ⟨y1, y2⟩) := hf
  clear hA1 hba hf
  rw [HA1.out]
  go_upto_region 26 with (fail)
  clear hc1 hc2 u0
  have HBL : Hid (Below wr3.heap.size wr3 (wr3.alloc (.cells #[.int .i64 y1, .int .i64 y2] 53))) := (Below.refl _ _).alloc (Nat.le_refl _) _
  have HYB := Lib.hid (Blk.new wr3 53 #[.int .i64 y1, .int .i64 y2])
  have HMn := Lib.hid (HMK.out HM.out HBL.out)
  have HFn := Lib.hid ((HFS.out.below HBL.out (Nat.le_refl _)).more HBL.out.size)
  clear HM HFS HBL
  generalize World.alloc wr3 _ = Y at *
  obtain ⟨yb, hyb⟩ : ∃ x, x = wr3.heap.size := ⟨_, rfl⟩
  rw [← hyb] at HYB ⊢
  clear hyb
  have v0 := (HMO.out _ HMn.out).2.c0
  have v1 := (HMO.out _ HMn.out).2.c1
  have e0 := HYB.out.c0
  have e1' : Y.cell? ⟨yb, 1, none⟩ = some (.int .i64 y2) := HYB.out.cell 1
  have hq := run_eql_fn z1 z2 y1 y2
  have HB : Hid ((S.1.take (t + 1)).any (fun y => Fn.eqB ⟨z1, z2⟩ y) = ((S.1.take t).any (fun y => Fn.eqB ⟨z1, z2⟩ y) || Fn.eqB ⟨z1, z2⟩ ⟨y1, y2⟩)) := any_snc HY.out
  generalize (S.1.take t).any (fun y => Fn.eqB ⟨z1, z2⟩ y) = T1 at *
  generalize Fn.eqB ⟨z1, z2⟩ ⟨y1, y2⟩ = U1 at *
  have hkk : IntKind.i64.wrap ((t : Int) + 1) = (t : Int) + 1 := IntWalk.i64_in _ (by omega)
  clear HSS HA
  rcases U with _ | _ <;> rcases T1 with _ | _
  all_goals
   go_wp2_with fail
   rw [← HA1.out]
   refine Handed.intro (q1 - (t + 1)) (by omega) (hJ3 _ _ _ (LpI2.back 92 14 ?_ (by kernel_rfl)))
   dsimp only [gt]
   exact ⟨t + 1, by go_num, by omega, rfl, by rw [HB.out]; rfl, ⟨HMn.out, HFn.out⟩⟩
 have u0 : decide (t < q1) = false := by simpa using htl
 rw [show (U || (S.1.take t).any fun y => Fn.eqB ⟨z1, z2⟩ y) = ((allOf m).take (j + 1)).any (fun s => (smRun ns ds co [] 0 [] ⟨s, [], pr⟩ xs).1.any fun y => Fn.eqB ⟨z1, z2⟩ y) by rw [HA.out, HSS.out, List.take_of_length_le (by rw [HQL.out]; omega)]]
 have hkk : IntKind.i64.wrap ((j : Int) + 1) = (j : Int) + 1 := IntWalk.i64_in _ (by omega)
 clear HA HSS
 go_wp2_with fail
 rw [← HAR.out]
 refine Handed.intro (P - (j + 1)) (by omega) (hJ2 _ _ _ (LpI2.back 73 14 ?_ (by kernel_rfl)))
 dsimp only [gt]
 exact ⟨j + 1, by go_num, by omega, rfl, by simp, HM⟩
end Go.Proofs.YtkkobemhbicjgaaGreatDoor
