import Derived.Test.YtepicjpdhpojnaaGreatDoorX41
import Derived.Test.YtepicjpdhpojnaaGreatDoorX42
import Derived.ChangeMaps5
import Derived.Lib.SmallJoins
import Derived.Deep.Slices
import Derived.Deep.Fields
set_option maxRecDepth 100000
set_option maxHeartbeats 32000000
namespace Go.Proofs.YtepicjpdhpojnaaGreatDoor
section
open Go.RowKit
theorem walkH_FieldExact (w : World) (hl : Laid w) (A : Option Addr) (n c : Nat) (zs : List Int) (hs : Sl w w.heap.size 1 A n c (zK zs)) (_hz : ∀ z ∈ zs, (Lit.int .i64 z).wf = true)
 (R1 R2 R3 : Option Addr) (r1 e1 r2 e2 r3 e3 : Nat) (FR : Fd) (hr : Fd3 w R1 r1 e1 R2 r2 e2 R3 r3 e3 FR) (ek ed ep eq : Int)
 (Az0 : Option Addr) (nz0 cz0 : Nat) (z0 : List Int) (hz0 : Sl w w.heap.size 1 Az0 nz0 cz0 (zK z0)) (Ak0 : Option Addr) (nk0 ck0 : Nat) (K0 : List Lk) (hk0 : Sl w w.heap.size 3 Ak0 nk0 ck0 (K0.flatMap Lk.cells)) :
 Calls Tryz.prog 6 #[.slice A n c, .agg #[.slice R1 r1 e1, .slice R2 r2 e2, .slice R3 r3 e3], .agg #[.int .i64 ek, .int .i64 ed, .int .i64 ep, .int .i64 eq], .slice Az0 nz0 cz0, .slice Ak0 nk0 ck0] w fun e w' => e = .returned (.bool true) ∧ Below w.heap.size w w' := by
 have hnm := hs.le
 have hnm1 := hr.1.le
 have hnm2 := hr.2.1.le
 have hnm3 := hr.2.2.le
 have hnmz := hz0.le
 have hnmk := hk0.le
 have HB0 := iD (mR.new w #[.slice R1 r1 e1, .slice R2 r2 e2, .slice R3 r3 e3] #[.int .i64 ek, .int .i64 ed, .int .i64 ep, .int .i64 eq])
 have HLB := iD (hl.below HB0.out.bl lR)
 have HSB := iD ((hs.below HB0.out.bl lR).more HB0.out.bl.size)
 have HAB := iD (jC.below ⟨hr, hz0, hk0⟩ HB0.out.bl)
 clear hl hs _hz hr hz0 hk0
 go_enter Tryz.func6, Tryz.ntmps6
 go_upto_region 1 with (fail)
 generalize World.alloc (World.alloc w _) _ = W at *
 go_wp2_with fail
 refine (wA W HLB.out).mono ?_
 rintro e w1 ⟨rfl, hb1⟩
 have HB1 := iD (HB0.out.later hb1)
 have HL := iD (HLB.out.below hb1 lR)
 have HS1 := iD ((HSB.out.below hb1 lR).more hb1.size)
 have HA1 := iD (HAB.out.below hb1)
 clear hb1 HB0 HLB HSB HAB
 have HF := iD (jZ A n c w1 (by omega))
 rcases hf : decide (n ≤ 400) with _ | _
 ·rw [hf] at HF
  clear hf
  go_wp2_with fail
  refine HF.out.mono ?_
  rintro e w2 ⟨rfl, rfl⟩
  go_wp2_with fail
  refine (wA w1 HL.out).mono ?_
  rintro e we ⟨rfl, hbe⟩
  go_wp2_with fail
  go_ret
  exact ⟨rfl, HB1.out.bl.trans (hbe.mono HB1.out.bl.size)⟩
 rw [hf] at HF
 clear hf
 have f0 : w1.cell? ⟨w.heap.size, 0, none⟩ = some (.slice R1 r1 e1) := HB1.out.r.cell 0
 have f1 : w1.cell? ⟨w.heap.size, 1, none⟩ = some (.slice R2 r2 e2) := HB1.out.r.cell 1
 have f2 : w1.cell? ⟨w.heap.size, 2, none⟩ = some (.slice R3 r3 e3) := HB1.out.r.cell 2
 go_wp2_with fail
 refine HF.out.mono ?_
 rintro e w2 ⟨rfl, rfl⟩
 clear HF
 by_cases hr : 70 < r1
 ·have q1 : decide (70 < r1) = true := by simpa using hr
  go_wp2_with fail
  refine (wA w1 HL.out).mono ?_
  rintro e we ⟨rfl, hbe⟩
  go_wp2_with fail
  go_ret
  exact ⟨rfl, HB1.out.bl.trans (hbe.mono HB1.out.bl.size)⟩
 have q1 : decide (70 < r1) = false := by simpa using hr
 by_cases hr2 : 40 < r2
 ·have q2 : decide (40 < r2) = true := by simpa using hr2
  go_wp2_with fail
  refine (wA w1 HL.out).mono ?_
  rintro e we ⟨rfl, hbe⟩
  go_wp2_with fail
  go_ret
  exact ⟨rfl, HB1.out.bl.trans (hbe.mono HB1.out.bl.size)⟩
 have q2 : decide (40 < r2) = false := by simpa using hr2
 by_cases hr3 : 70 < r3
 ·have q3 : decide (70 < r3) = true := by simpa using hr3
  go_wp2_with fail
  refine (wA w1 HL.out).mono ?_
  rintro e we ⟨rfl, hbe⟩
  go_wp2_with fail
  go_ret
  exact ⟨rfl, HB1.out.bl.trans (hbe.mono HB1.out.bl.size)⟩
 have q3 : decide (70 < r3) = false := by simpa using hr3
 by_cases hr4 : 60 < nz0
 ·have q4 : decide (60 < nz0) = true := by simpa using hr4
  go_wp2_with fail
  refine (wA w1 HL.out).mono ?_
  rintro e we ⟨rfl, hbe⟩
  go_wp2_with fail
  go_ret
  exact ⟨rfl, HB1.out.bl.trans (hbe.mono HB1.out.bl.size)⟩
 have q4 : decide (60 < nz0) = false := by simpa using hr4
 by_cases hr5 : 60 < nk0
 ·have q5 : decide (60 < nk0) = true := by simpa using hr5
  go_wp2_with fail
  refine (wA w1 HL.out).mono ?_
  rintro e we ⟨rfl, hbe⟩
  go_wp2_with fail
  go_ret
  exact ⟨rfl, HB1.out.bl.trans (hbe.mono HB1.out.bl.size)⟩
 have q5 : decide (60 < nk0) = false := by simpa using hr5
 go_wp2_with fail
 clear f0 f1 f2 q1 q2 q3 q4 q5 hr hr2 hr3 hr5
 refine (jU A n c w1.heap.size zs w1 HS1.out lR).mono ?_
 rintro e w2 ⟨rfl, hd2, hb2, hs2⟩
 go_wp2_with fail
 refine (lE w1.heap.size w2 w1 hd2.out (HL.out.below hb2.out lR) HL.out lR).mono ?_
 rintro e w3 ⟨An, Ad, As, Al, At, cn, nd, cd, n0, c0, nl, cl, nt, ct, ns, ds, F, rfl, hg3, hX3, hF3, hn3, hL3⟩
 have HM4 := iD (FlM.mk0 hb2.out hs2.out hg3.out hX3.out)
 have HF4 := iD hF3.out
 obtain ⟨hnd9, hnd10⟩ := hn3.out
 clear hd2 hb2 hs2 hg3 hX3 hF3 hn3 hL3 HS1
 go_upto_region 5 with (fail)
 obtain ⟨nb, hnb⟩ : ∃ x, x = w3.heap.size := ⟨_, rfl⟩
 rw [← hnb] at HM4 ⊢
 clear hnb
 generalize World.alloc (World.alloc w3 _) _ = w4 at *
 have f0 : w4.cell? ⟨nb + 1, 0, none⟩ = some (.slice As n0 c0) := HM4.out.bf.cell 0
 have f1 : w4.cell? ⟨nb + 1, 1, none⟩ = some (.slice Al nl cl) := HM4.out.bf.cell 1
 have f2 : w4.cell? ⟨nb + 1, 2, none⟩ = some (.slice At nt ct) := HM4.out.bf.cell 2
 go_upto_region 6 with (fail)
 clear f0 f1 f2
 have HM5 := iD (HM4.out.later ((Below.refl _ w4).alloc lR (.cells #[.slice As n0 c0, .slice Al nl cl, .slice At nt ct] 35)))
 have HB5 := iD (Blk.new w4 35 #[.slice As n0 c0, .slice Al nl cl, .slice At nt ct])
 have hbb : nb + 1 < w4.heap.size := HM4.out.bf.lt
 clear HM4
 generalize World.alloc w4 _ = w5 at *
 obtain ⟨bb, hbbe⟩ : ∃ x, x = w4.heap.size := ⟨_, rfl⟩
 rw [← hbbe] at HB5 hbb ⊢
 clear hbbe
 have hge := HM5.out.ge
 go_wp2_with fail
 refine (zT w1.heap.size 4 w5 HM5.out.x.dk (by decide)).mono ?_
 rintro e w6 ⟨k, rfl, k0, k1, k2, hd6, hg6, hs6⟩
 have k3 : k < 4 := k2.out (by decide)
 have HM6 := iD (HM5.out.grown HL.out hg6.out hd6.out)
 have HB6 := iD (HB5.out.grown hg6.out (fun e => by injection e with e; omega))
 clear hd6 hg6 hs6 k1 k2 HM5 HB5
 have hcn := HM6.out.ln
 obtain ⟨hfs1, hfs2, hfs3, hfs4⟩ := tx HF4.out
 have hlem := HM6.out.x.hs.1.le
 have hlet := HM6.out.x.ht.1.le
 go_upto_if 90 with (fail)
 refine nT [(43, 0), (44, 1), (1, 0), (6, 1), (0, 2), (18, 1), (2, 0), (20, 1), (2, 0), (83, 1), (2, 0), (7, 1), (2, 0), (2, 1), (2, 0), (32, 1)] (fun _ wc => nQ w1 nb bb An Ad As Al At cn nd cd n0 c0 nl cl nt ct ns ds F wc) ?rest0 ?first0
 case first0 =>
  intro Jc0 Kc0 hJc0 hKc0
  rcases (show k = 0 ∨ k = 1 ∨ k = 2 ∨ k = 3 by omega) with rfl | rfl | rfl | rfl
  ·have f0 : w6.cell? ⟨nb + 1, 0, none⟩ = some (.slice As n0 c0) := HM6.out.bf.cell 0
   go_wp2_with fail
   clear f0
   have HVN := iD (Sl.newest (w := w6) (cs := #[.int .i64 0, .int .i64 1, .int .i64 2, .int .i64 3]) (T := 3) (fr := (0, 0)) (n := 4) (size := 1) rfl (by rfl) (by decide))
   have HM7 := iD (HM6.out.later ((Below.refl _ w6).alloc lR (.cells #[.int .i64 0, .int .i64 1, .int .i64 2, .int .i64 3] 3)))
   have HB7 := iD (HB6.out.alloc (.cells #[.int .i64 0, .int .i64 1, .int .i64 2, .int .i64 3] 3))
   have hgv : w1.heap.size < w6.heap.size := HM6.out.x.dk.lt
   have hz7 : (w6.alloc (.cells #[.int .i64 0, .int .i64 1, .int .i64 2, .int .i64 3] 3)).heap.size = w6.heap.size + 1 := by simp
   have HVX : Hid (SlX (w6.alloc (.cells #[.int .i64 0, .int .i64 1, .int .i64 2, .int .i64 3] 3)) w1.heap.size 1 (some ⟨w6.heap.size, 0, none⟩) 4 4 (zK [0, 1, 2, 3])) := ⟨by rw [hz7]; exact HVN.out, fun b off e => by injection e with e; injection e; omega⟩
   clear HM6 HB6 HVN hz7
   generalize World.alloc w6 _ = w7 at *
   refine (ku w1.heap.size As (some ⟨w6.heap.size, 0, none⟩) n0 c0 4 4 F.s [0, 1, 2, 3] w7 HM7.out.x.dk HM7.out.x.hs HVX.out (by omega) (by decide)).mono ?_
   rintro e w8 ⟨Y1, m1, d1, l1, rfl, hd8, hg8, hY8, hm8⟩
   have HM8 := iD (HM7.out.grown HL.out hg8.out hd8.out)
   have HB8 := iD (HB7.out.grown hg8.out (fun e => by injection e with e; omega))
   have HY8 := iD hY8.out
   clear hd8 hg8 hY8 hm8 HM7 HB7 HVX
   have y0 := HB8.out.cell 0
   have z0' := HB8.out.frozen 0
   have AS8 := sf As Al At n0 c0 nl cl nt ct
   have HCT : Hid (nQ w1 nb bb An Ad As Al At cn nd cd n0 c0 nl cl nt ct ns ds F (w8.setCell ⟨bb, 0, none⟩ (.slice Y1 m1 d1))) :=
    ⟨Y1, Al, At, m1, d1, nl, cl, nt, ct, ⟨l1, F.ls, F.st⟩, HM8.out.put HL.out HB8.out AS8 hbb _, HB8.out.set 0 _, HY8.out.apart HB8.out AS8 (yk _) _, HM8.out.x.hl.apart HB8.out AS8 (uB _) _, HM8.out.x.ht.apart HB8.out AS8 (yk _) _⟩
   clear AS8
   go_wp2_with fail
   refine Met.intro (hJc0 _ _ (nR.back 98 ?_ (by kernel_rfl)))
   try dsimp only [gt]
   exact HCT.out
  ·have f2 : w6.cell? ⟨nb + 1, 2, none⟩ = some (.slice At nt ct) := HM6.out.bf.cell 2
   go_wp2_with (at_builtin; go_must (refine zW rfl _ (.tmp 101) rfl yX (by rfl) (World.ownsRow_nil _ w6.heap.size _ _) (by rfl) HM6.out.x.ht.1 (vi _) (by omega) (by omega) (by omega) ?_; intro A7 c7 w7 hown7 hgr7 hat7; simp only [Nat.zero_add, List.nil_append] at hown7 hgr7 ⊢; (try simp only [Act.put, sA, s0, s1]); have HO7 := iD hown7; have HBL7 := iD (zp hgr7); clear hown7 hgr7 hat7))
   clear f2
   have hgv : w1.heap.size < w6.heap.size := HM6.out.x.dk.lt
   have hbw6 : bb < w6.heap.size := HB6.out.lt
   have HM7 := iD (HM6.out.later HBL7.out)
   have HG7 : Hid (w6.grownBy w7 (some w1.heap.size)) := zN HBL7.out _
   have hz7 := HBL7.out.size
   have hle7 := (Sl.of_own HO7.out).le
   clear HBL7
   refine (zT w1.heap.size 10 w7 HM7.out.x.dk (by decide)).mono ?_
   rintro e w8 ⟨t, rfl, t0, t1, t2, hd8, hg8, hs8⟩
   have t3 : t < 10 := t2.out (by decide)
   have HG8 := iD (zO HG7.out hg8.out)
   have HD8 := iD hd8.out
   have HO8 : Hid (zQ w8 w6.heap.size A7 nt c7 F.st) := World.ownsRow.kept HO7.out hg8.out (zf fun b e => by have := (World.ownsRow.lt HO7.out b e).1; omega)
   have hz8 := hg8.out.size
   clear hd8 hg8 hs8 t1 t2 HM7 HG7 HO7
   have hwt : IntKind.wrap .i64 (t - 1) = t - 1 := by rw [IntWalk.i64_in _ (by omega)]
   go_wp2_with (at_builtin; go_must (refine zW rfl (.tmp 102) (.tmp 106) rfl yX (by rfl) (World.ownsRow.alloc HO8.out _) (by rfl) (Sl.newest (n := 1) (by simp) (by rfl) (by decide)) (by simp [Value.oneCell']) (by omega) (by omega) (by simp; omega) ?_; intro A9 c9 w9 hown9 hgr9 hat9; (try simp only [Act.put, sA, s0, s1]); have HO9 := iD hown9; have HG9 : Hid (w6.grownBy w9 (some w1.heap.size)) := xf (uZ HG8.out _) hgr9 (fun b e => (World.ownsRow.lt HO8.out b e).1); have HD9 : Hid (zU w9 w1.heap.size) := (HD8.out.alloc _).grown hgr9 (fun b e => by have := (World.ownsRow.lt HO8.out b e).1; omega); have HB9 := iD (HB6.out.grown HG9.out (fun e => by injection e with e; omega)); have y0 := HB9.out.cell 2; have z0' := HB9.out.frozen 2; have HM9 := iD (HM6.out.grown HL.out HG9.out HD9.out); have HY9 : Hid (SlX w9 w1.heap.size 1 A9 (nt + 1) c9 (zK (F.st ++ [t - 1]))) := SlX.of_own (base := w6.heap.size) (e := 3) (by unfold zK; rw [List.flatMap_append]; exact HO9.out) hgv; have AS9 := sf As Al At n0 c0 nl cl nt ct; have HCT : Hid (nQ w1 nb bb An Ad As Al At cn nd cd n0 c0 nl cl nt ct ns ds F (w9.setCell ⟨bb, 2, none⟩ (.slice A9 (nt + 1) c9))) := ⟨As, Al, A9, n0, c0, nl, cl, nt + 1, c9, ⟨F.s, F.ls, F.st ++ [t - 1]⟩, HM9.out.put HL.out HB9.out AS9 hbb _, HB9.out.set 2 _, HM9.out.x.hs.apart HB9.out AS9 (yk _) _, HM9.out.x.hl.apart HB9.out AS9 (uB _) _, HY9.out.apart HB9.out AS9 (yk _) _⟩; clear hown9 hgr9 hat9 AS9))
   refine Met.intro (hJc0 _ _ (nR.back 98 ?_ (by kernel_rfl)))
   try dsimp only [gt]
   exact HCT.out
  ·have k0 : w6.cell? ⟨nb, 0, none⟩ = some (.slice An 6 cn) := HM6.out.bn.cell 0
   have k1 : w6.cell? ⟨nb, 1, none⟩ = some (.slice Ad nd cd) := HM6.out.bn.cell 1
   go_wp2_with fail
   clear k0 k1
   refine (ol w1.heap.size An Ad none 6 cn nd cd 0 0 4 ns ds [] w6 HM6.out.x.dk HM6.out.x.hn HM6.out.x.hd (SlX.nil _ _ _) (by omega) (by decide) HM6.out.x.sn HM6.out.x.sd).mono ?_
   rintro e w8 ⟨Y2, m2, d2, l2, rfl, hd8, hg8, hY8, hm8⟩
   have hgv : w1.heap.size < w6.heap.size := HM6.out.x.dk.lt
   have HM8 := iD (HM6.out.grown HL.out hg8.out hd8.out)
   have HB8 := iD (HB6.out.grown hg8.out (fun e => by injection e with e; omega))
   have HY8 : Hid (SlX w8 w1.heap.size 3 Y2 m2 d2 (l2.flatMap Lk.cells)) := SlX.of_own hY8.out (by omega)
   clear hd8 hg8 hY8 hm8
   have y0 := HB8.out.cell 1
   have z0' := HB8.out.frozen 1
   have AS8 := sf As Al At n0 c0 nl cl nt ct
   have HCT : Hid (nQ w1 nb bb An Ad As Al At cn nd cd n0 c0 nl cl nt ct ns ds F (w8.setCell ⟨bb, 1, none⟩ (.slice Y2 m2 d2))) :=
    ⟨As, Y2, At, n0, c0, m2, d2, nt, ct, ⟨F.s, l2, F.st⟩, HM8.out.put HL.out HB8.out AS8 hbb _, HB8.out.set 1 _, HM8.out.x.hs.apart HB8.out AS8 (yk _) _, HY8.out.apart HB8.out AS8 (uB _) _, HM8.out.x.ht.apart HB8.out AS8 (yk _) _⟩
   clear AS8
   go_wp2_with fail
   refine Met.intro (hJc0 _ _ (nR.back 98 ?_ (by kernel_rfl)))
   try dsimp only [gt]
   exact HCT.out
  ·have HCT : Hid (nQ w1 nb bb An Ad As Al At cn nd cd n0 c0 nl cl nt ct ns ds F w6) := ⟨As, Al, At, n0, c0, nl, cl, nt, ct, F, HM6, HB6, HM6.out.x.hs, HM6.out.x.hl, HM6.out.x.ht⟩
   go_wp2_with fail
   refine Met.intro (hJc0 _ _ (nR.back 98 ?_ (by kernel_rfl)))
   try dsimp only [gt]
   exact HCT.out
 case rest0 =>
  clear HM6 HB6
  intro uc0 p98 wc a hcut ha
  dsimp only [zi, Go.Proofs.YtepicjpdhpojnaaGreatDoor.v1, Nat.reduceAdd] at ha
  subst ha
  obtain ⟨Y1, Y2, Y3, m1, d1, m2, d2, m3, d3, FB, hMc, hBc, hY1, hY2, hY3⟩ := hcut
  obtain ⟨M0, hM0⟩ : ∃ M : World → Prop, M = fun W' => FlM w1 nb An Ad As Al At cn nd cd n0 c0 nl cl nt ct ns ds F W' ∧ SlX W' w1.heap.size 1 Y1 m1 d1 (zK FB.s) ∧ SlX W' w1.heap.size 3 Y2 m2 d2 (FB.ls.flatMap Lk.cells) ∧ SlX W' w1.heap.size 1 Y3 m3 d3 (zK FB.st) := ⟨_, rfl⟩
  have HK0 : Hid (xi w1.heap.size M0) := by unfold Hid; rw [hM0]; exact (xi.flm HL.out).and (xi.slx.and (xi.slx.and xi.slx))
  have HP0 : Hid (∀ W', M0 W' → FlM w1 nb An Ad As Al At cn nd cd n0 c0 nl cl nt ct ns ds F W' ∧ SlX W' w1.heap.size 1 Y1 m1 d1 (zK FB.s) ∧ SlX W' w1.heap.size 3 Y2 m2 d2 (FB.ls.flatMap Lk.cells) ∧ SlX W' w1.heap.size 1 Y3 m3 d3 (zK FB.st)) := fun W' h => by rw [hM0] at h; exact h
  have HM0 : Hid (M0 wc) := by unfold Hid; rw [hM0]; exact ⟨hMc.out, hY1.out, hY2.out, hY3.out⟩
  have HBC := iD hBc.out
  clear hM0 hMc hBc hY1 hY2 hY3
  have HQI : Hid (∀ W', M0 W' → jC W' R1 R2 R3 Az0 Ak0 r1 e1 r2 e2 r3 e3 nz0 cz0 nk0 ck0 FR z0 K0) := fun W' h => HA1.out.below (HP0.out W' h).1.bl
  have HQB : Hid (∀ W', M0 W' → mR w #[.slice R1 r1 e1, .slice R2 r2 e2, .slice R3 r3 e3] #[.int .i64 ek, .int .i64 ed, .int .i64 ep, .int .i64 eq] W') := fun W' h => HB1.out.later (HP0.out W' h).1.bl
  have f0 : wc.cell? ⟨nb + 1, 0, none⟩ = some (.slice As n0 c0) := (HP0.out wc HM0.out).1.bf.cell 0
  have f1 : wc.cell? ⟨nb + 1, 1, none⟩ = some (.slice Al nl cl) := (HP0.out wc HM0.out).1.bf.cell 1
  have f2 : wc.cell? ⟨nb + 1, 2, none⟩ = some (.slice At nt ct) := (HP0.out wc HM0.out).1.bf.cell 2
  have g0 := HBC.out.cell 0
  have g1 := HBC.out.cell 1
  have g2 := HBC.out.cell 2
  have h0 := (HQB.out wc HM0.out).r.cell 0
  have h1 := (HQB.out wc HM0.out).r.cell 1
  have h2 := (HQB.out wc HM0.out).r.cell 2
  go_wp2_with fail
  clear f0 f1 f2 g0 g1 g2 h0 h1 h2 HBC
  obtain ⟨M1, hM1⟩ : ∃ M : World → Prop, M = fun W' => M0 W' ∧ Blk W' wc.heap.size 35 #[.slice As n0 c0, .slice Al nl cl, .slice At nt ct, .slice Y1 m1 d1, .slice Y2 m2 d2, .slice Y3 m3 d3, .slice R1 r1 e1, .slice R2 r2 e2, .slice R3 r3 e3] := ⟨_, rfl⟩
  have hgc : w1.heap.size < wc.heap.size := (HP0.out wc HM0.out).1.x.dk.lt
  have HK1 : Hid (xi w1.heap.size M1) := by unfold Hid; rw [hM1]; exact HK0.out.and (xi.blk (by omega))
  have HP1 : Hid (∀ W', M1 W' → M0 W' ∧ Blk W' wc.heap.size 35 #[.slice As n0 c0, .slice Al nl cl, .slice At nt ct, .slice Y1 m1 d1, .slice Y2 m2 d2, .slice Y3 m3 d3, .slice R1 r1 e1, .slice R2 r2 e2, .slice R3 r3 e3]) := fun W' h => by rw [hM1] at h; exact h
  have HM1 : Hid (M1 (wc.alloc (.cells #[.slice As n0 c0, .slice Al nl cl, .slice At nt ct, .slice Y1 m1 d1, .slice Y2 m2 d2, .slice Y3 m3 d3, .slice R1 r1 e1, .slice R2 r2 e2, .slice R3 r3 e3] 35))) := by unfold Hid; rw [hM1]; exact ⟨HK0.out.later HM0.out ((Below.refl _ _).alloc lR _), Blk.new _ _ _⟩
  clear hM1 HM0
  generalize World.alloc wc _ = wd at *
  obtain ⟨xb, hxb⟩ : ∃ x, x = wc.heap.size := ⟨_, rfl⟩
  rw [← hxb] at HP1 hgc ⊢
  clear hxb
  refine yO [(9, 0), (0, 1), (4, 0), (1, 1), (0, 0), (14, 1), (0, 0), (0, 1), (0, 0), (0, 1), (0, 0), (4, 1), (75, 0), (0, 2), (160, 1)] 120 (3) (HnF M1 3) (by (try dsimp only [gt]); exact ⟨0, rfl, Nat.zero_le _, rfl, HM1⟩) (by kernel_rfl) ?_
  intro u1 p120 gk wa a hrel ha J1 K1 hJ1 hK1
  dsimp only [zi, Go.Proofs.YtepicjpdhpojnaaGreatDoor.v1, Nat.reduceAdd] at ha
  subst ha
  clear HM1 wd
  obtain ⟨i, rfl, hi, rfl, HM1⟩ := hrel
  by_cases hlt : i < 3; rotate_left
  ·have hii : decide ((i : Int) < 3) = false := by simp; omega
   have hii2 : decide (i < 3) = false := by simp; omega
   have HBE := iD (HQB.out wa (HP1.out wa HM1.out).1).bl
   go_wp2_with fail
   go_ret
   exact ⟨rfl, HBE.out⟩
  have hdi : decide ((i : Int) < 3) = true := by simp; omega
  obtain ⟨X1, X2, X3, a1, b1, a2, b2, a3, b3, FX, hx0, hx1, hx2, HFX⟩ : ∃ (X1 X2 X3 : Option Addr) (a1 b1 a2 b2 a3 b3 : Nat) (FX : Fd), wa.cell? ⟨xb, i * 3, none⟩ = some (.slice X1 a1 b1) ∧ wa.cell? ⟨xb, i * 3 + 1, none⟩ = some (.slice X2 a2 b2) ∧ wa.cell? ⟨xb, i * 3 + 2, none⟩ = some (.slice X3 a3 b3) ∧ Hid (∀ W', M1 W' → FdM W' An Ad X1 X2 X3 6 cn nd cd a1 b1 a2 b2 a3 b3 ns ds FX) := by
   have hb := (HP1.out wa HM1.out).2
   rcases (show i = 0 ∨ i = 1 ∨ i = 2 by omega) with rfl | rfl | rfl
   ·exact ⟨As, Al, At, n0, c0, nl, cl, nt, ct, F, hb.cell 0, hb.cell 1, hb.cell 2, fun W' h => (HP0.out W' (HP1.out W' h).1).1.x.fdm⟩
   ·exact ⟨Y1, Y2, Y3, m1, d1, m2, d2, m3, d3, FB, hb.cell 3, hb.cell 4, hb.cell 5, fun W' h => (HP0.out W' (HP1.out W' h).1).1.x.fdm.of3 ⟨(HP0.out W' (HP1.out W' h).1).2.1.1, (HP0.out W' (HP1.out W' h).1).2.2.1.1, (HP0.out W' (HP1.out W' h).1).2.2.2.1⟩⟩
   ·exact ⟨R1, R2, R3, r1, e1, r2, e2, r3, e3, FR, hb.cell 6, hb.cell 7, hb.cell 8, fun W' h => (HP0.out W' (HP1.out W' h).1).1.x.fdm.of3 (HQI.out W' (HP1.out W' h).1).r⟩
  go_upto_region 16 with (fail)
  clear hx0 hx1 hx2 hdi
  have hga : w1.heap.size < wa.heap.size := (HP0.out wa (HP1.out wa HM1.out).1).1.x.dk.lt
  obtain ⟨M2, hM2⟩ : ∃ M : World → Prop, M = fun W' => M1 W' ∧ Blk W' wa.heap.size 35 #[.slice X1 a1 b1, .slice X2 a2 b2, .slice X3 a3 b3] := ⟨_, rfl⟩
  have HK2 : Hid (xi w1.heap.size M2) := by unfold Hid; rw [hM2]; exact HK1.out.and (xi.blk (by omega))
  have HP2 : Hid (∀ W', M2 W' → M1 W' ∧ Blk W' wa.heap.size 35 #[.slice X1 a1 b1, .slice X2 a2 b2, .slice X3 a3 b3]) := fun W' h => by rw [hM2] at h; exact h
  have HM2 : Hid (M2 (wa.alloc (.cells #[.slice X1 a1 b1, .slice X2 a2 b2, .slice X3 a3 b3] 35))) := by unfold Hid; rw [hM2]; exact ⟨HK1.out.later HM1.out ((Below.refl _ _).alloc lR _), Blk.new _ _ _⟩
  clear hM2 HM1
  generalize World.alloc wa _ = wb at *
  obtain ⟨fb, hfb⟩ : ∃ x, x = wa.heap.size := ⟨_, rfl⟩
  rw [← hfb] at HP2 hga ⊢
  clear hfb
  have HN2 : Hid (∀ W', M2 W' → Blk W' nb 30 #[.slice An 6 cn, .slice Ad nd cd]) := fun W' h => (HP0.out W' (HP1.out W' (HP2.out W' h).1).1).1.bn
  have HX2 : Hid (∀ W', M2 W' → FdM W' An Ad X1 X2 X3 6 cn nd cd a1 b1 a2 b2 a3 b3 ns ds FX) := fun W' h => HFX.out W' (HP2.out W' h).1
  obtain ⟨E, hE⟩ : ∃ E, E = zk ns ds FX := ⟨_, rfl⟩
  have HEE := iD hE
  clear hE
  refine za (S := M2) (J := []) (n := _) ((0, true) :: (1, true) :: (3, true) :: (4, true) :: (2, false) :: (5, false) :: (6, true) :: []) (by as_aux_lemma => kernel_rfl) (by rfl) (zM (k := 12) (by go_simp; rfl) (zM (k := 16) (by go_simp; rfl) yH)) ?_ (fun _ _ _ _ _ h => h) (fun Q2 A hsz hbase hn2 AA => ?_)
  ·exact HK2.out.drew HM2.out
  try dsimp only at AA
  obtain ⟨b12, b16, -⟩ := hbase
  refine oT 0 124 ?_ rfl rfl (zB rfl) AA (fun ρ AB w hSw => ?_) ?_
  rotate_left
  ·(have e12 := tm AB hsz 12 rfl (zF b12); clear AB; (try dsimp only at hSw); have k0 := (HN2.out _ hSw).cell 0; have k1 := (HN2.out _ hSw).cell 1; clear hSw; go_simp; try with_reducible rfl)
  refine oT 1 125 ?_ rfl rfl (zB rfl) AA (fun ρ AB w hSw => ?_) ?_
  rotate_left
  ·(have e16 := tm AB hsz 16 rfl (zC rfl (zF b16)); clear AB; (try dsimp only at hSw); have k0 := (HP2.out _ hSw).2.cell 0; have k1 := (HP2.out _ hSw).2.cell 1; have k2 := (HP2.out _ hSw).2.cell 2; clear hSw; go_simp; try with_reducible rfl)
  refine oT 3 127 ?_ rfl rfl (zB rfl) AA (fun ρ AB w hSw => ?_) ?_
  rotate_left
  ·(have e12 := tm AB hsz 12 rfl (zC rfl (zC rfl (zF b12))); clear AB; (try dsimp only at hSw); have k0 := (HN2.out _ hSw).cell 0; have k1 := (HN2.out _ hSw).cell 1; clear hSw; go_simp; try with_reducible rfl)
  refine oT 4 128 ?_ rfl rfl (zB rfl) AA (fun ρ AB w hSw => ?_) ?_
  rotate_left
  ·(have e16 := tm AB hsz 16 rfl (zC rfl (zC rfl (zC rfl (zF b16)))); clear AB; (try dsimp only at hSw); have k0 := (HP2.out _ hSw).2.cell 0; have k1 := (HP2.out _ hSw).2.cell 1; have k2 := (HP2.out _ hSw).2.cell 2; clear hSw; go_simp; try with_reducible rfl)
  refine yR (i := 2) (d := 126) (vs := ?_) rfl rfl rfl (zB rfl) (fun ρ AB => ?_) ?_ ?_
  rotate_left
  ·(have e124 := tm AB hsz 124 rfl (zC rfl (zC rfl (zC rfl zA))); have e125 := tm AB hsz 125 rfl (zC rfl (zC rfl zA)); simp only [List.map_toArray, List.map_cons, List.map_nil, e124, e125]; try with_reducible rfl)
  ·(intro w; go_simp)
  refine (vG An Ad X1 X2 X3 6 cn nd cd a1 b1 a2 b2 a3 b3 ns ds FX wb.drew (HX2.out _ (HK2.out.drew HM2.out))).mono ?_
  rintro e w3 ⟨rfl, hb3⟩
  rw [← HEE.out]
  have HM3 := iD (HK2.out.later (HK2.out.drew HM2.out) hb3)
  clear hb3
  refine ⟨_, rfl, fun _ => ?_, fun AA' => ?_⟩
  ·exact HM3.out
  replace AA := AA' rfl
  clear AA'
  try dsimp only at AA
  refine yR (i := 5) (d := 129) (vs := ?_) rfl rfl rfl (zB rfl) (fun ρ AB => ?_) ?_ ?_
  rotate_left
  ·(have e127 := tm AB hsz 127 rfl (zC rfl (zC rfl zA)); have e128 := tm AB hsz 128 rfl (zC rfl zA); simp only [List.map_toArray, List.map_cons, List.map_nil, e127, e128]; try with_reducible rfl)
  ·(intro w; go_simp)
  refine (wF An Ad X1 X2 X3 6 cn nd cd a1 b1 a2 b2 a3 b3 ns ds FX w3 (HX2.out _ HM3.out)).mono ?_
  rintro e w4 ⟨rfl, hb4⟩
  rw [← HEE.out]
  have HM4 := iD (HK2.out.later HM3.out hb4)
  clear hb4 HM3
  refine ⟨_, rfl, fun _ => ?_, fun AA' => ?_⟩
  ·exact HM4.out
  replace AA := AA' rfl
  clear AA'
  try dsimp only at AA
  refine oT 6 130 ?_ rfl rfl (zB rfl) AA (fun ρ AB w hSw => ?_) ?_
  rotate_left
  ·(have e126 := tm AB hsz 126 rfl (zC rfl zA); have e129 := tm AB hsz 129 rfl zA; clear AB; (try dsimp only at hSw); go_simp; try with_reducible rfl)
  refine yG hn2 ?_
  clear AA hn2 b12 b16 hsz A Q2
  simp only [yF, zu, yQ, xO, xP]
  clear HM2
  have qee : (E != E) = false := by simp
  go_wp2_with fail
  clear qee
  refine za (S := M2) (J := []) (n := _) ((0, true) :: (1, true) :: (2, true) :: (4, true) :: (5, true) :: (7, true) :: (8, true) :: (3, false) :: (6, false) :: (9, false) :: (10, false) :: (11, true) :: []) (by as_aux_lemma => kernel_rfl) (by rfl) (zM (k := 7) (by go_simp; rfl) (zM (k := 11) (by go_simp; rfl) (zM (k := 12) (by go_simp; rfl) yH))) ?_ (fun _ _ _ _ _ h => h) (fun Q2 A hsz hbase hn2 AA => ?_)
  ·exact HK2.out.drew HM4.out
  try dsimp only at AA
  obtain ⟨b7, b11, b12, -⟩ := hbase
  refine oT 0 131 ?_ rfl rfl (zB rfl) AA (fun ρ AB w hSw => ?_) ?_
  rotate_left
  ·(have e7 := tm AB hsz 7 rfl (zF b7); clear AB; (try dsimp only at hSw); have k0 := (HQB.out _ (HP1.out _ (HP2.out _ hSw).1).1).e.cell 0; have k1 := (HQB.out _ (HP1.out _ (HP2.out _ hSw).1).1).e.cell 1; have k2 := (HQB.out _ (HP1.out _ (HP2.out _ hSw).1).1).e.cell 2; have k3 := (HQB.out _ (HP1.out _ (HP2.out _ hSw).1).1).e.cell 3; clear hSw; go_simp; try with_reducible rfl)
  refine oM 1 132 ?_ rfl rfl rfl (zB rfl) AA (fun ρ AB => ?_) ?_
  rotate_left
  ·(have e11 := tm AB hsz 11 rfl (zC rfl (zF b11)); exact e11)
  refine oT 2 133 ?_ rfl rfl (zB rfl) AA (fun ρ AB w hSw => ?_) ?_
  rotate_left
  ·(have e12 := tm AB hsz 12 rfl (zC rfl (zC rfl (zF b12))); clear AB; (try dsimp only at hSw); have k0 := (HN2.out _ hSw).cell 0; have k1 := (HN2.out _ hSw).cell 1; clear hSw; go_simp; try with_reducible rfl)
  refine oM 4 135 ?_ rfl rfl rfl (zB rfl) AA (fun ρ AB => ?_) ?_
  rotate_left
  ·(have e11 := tm AB hsz 11 rfl (zC rfl (zC rfl (zC rfl (zF b11)))); exact e11)
  refine oT 5 136 ?_ rfl rfl (zB rfl) AA (fun ρ AB w hSw => ?_) ?_
  rotate_left
  ·(have e12 := tm AB hsz 12 rfl (zD rfl rfl rfl rfl (zF b12)); clear AB; (try dsimp only at hSw); have k0 := (HN2.out _ hSw).cell 0; have k1 := (HN2.out _ hSw).cell 1; clear hSw; go_simp; try with_reducible rfl)
  refine oM 7 138 ?_ rfl rfl rfl (zB rfl) AA (fun ρ AB => ?_) ?_
  rotate_left
  ·(have e11 := tm AB hsz 11 rfl (zD rfl rfl rfl rfl (zC rfl (zF b11))); exact e11)
  refine oT 8 139 ?_ rfl rfl (zB rfl) AA (fun ρ AB w hSw => ?_) ?_
  rotate_left
  ·(have e12 := tm AB hsz 12 rfl (zD rfl rfl rfl rfl (zC rfl (zC rfl (zF b12)))); clear AB; (try dsimp only at hSw); have k0 := (HN2.out _ hSw).cell 0; have k1 := (HN2.out _ hSw).cell 1; clear hSw; go_simp; try with_reducible rfl)
  refine yR (i := 3) (d := 134) (vs := ?_) rfl rfl rfl (zB rfl) (fun ρ AB => ?_) ?_ ?_
  rotate_left
  ·(have e132 := tm AB hsz 132 rfl (zD rfl rfl rfl rfl (zC rfl zA)); have e133 := tm AB hsz 133 rfl (zD rfl rfl rfl rfl zA); simp only [List.map_toArray, List.map_cons, List.map_nil, e132, e133]; try with_reducible rfl)
  ·(intro w; go_simp)
  refine (uy w1.heap.size An Ad 6 cn nd cd w4.drew (HP0.out _ (HP1.out _ (HP2.out _ (HK2.out.drew HM4.out)).1).1).1.x.dk (by omega)).mono ?_
  rintro e w5 ⟨k5, d5, p5, q5, rfl, -, hd, hg⟩
  have HM5 := iD (HK2.out.grown (HK2.out.drew HM4.out) hg.out hd.out)
  clear hd hg
  refine ⟨_, rfl, fun _ => ?_, fun AA' => ?_⟩
  ·exact HM5.out
  replace AA := AA' rfl
  clear AA'
  try dsimp only at AA
  refine yR (i := 6) (d := 137) (vs := ?_) rfl rfl rfl (zB rfl) (fun ρ AB => ?_) ?_ ?_
  rotate_left
  ·(have e135 := tm AB hsz 135 rfl (zD rfl rfl rfl rfl zA); have e136 := tm AB hsz 136 rfl (zC rfl (zC rfl (zC rfl zA))); simp only [List.map_toArray, List.map_cons, List.map_nil, e135, e136]; try with_reducible rfl)
  ·(intro w; go_simp)
  refine (uy w1.heap.size An Ad 6 cn nd cd w5 (HP0.out _ (HP1.out _ (HP2.out _ HM5.out).1).1).1.x.dk (by omega)).mono ?_
  rintro e w6 ⟨k6, d6, p6, q6, rfl, -, hd, hg⟩
  have HM6 := iD (HK2.out.grown HM5.out hg.out hd.out)
  clear hd hg
  refine ⟨_, rfl, fun _ => ?_, fun AA' => ?_⟩
  ·exact HM6.out
  replace AA := AA' rfl
  clear AA'
  try dsimp only at AA
  refine yR (i := 9) (d := 140) (vs := ?_) rfl rfl rfl (zB rfl) (fun ρ AB => ?_) ?_ ?_
  rotate_left
  ·(have e138 := tm AB hsz 138 rfl (zC rfl (zC rfl (zC rfl zA))); have e139 := tm AB hsz 139 rfl (zC rfl (zC rfl zA)); simp only [List.map_toArray, List.map_cons, List.map_nil, e138, e139]; try with_reducible rfl)
  ·(intro w; go_simp)
  refine (uy w1.heap.size An Ad 6 cn nd cd w6 (HP0.out _ (HP1.out _ (HP2.out _ HM6.out).1).1).1.x.dk (by omega)).mono ?_
  rintro e w7 ⟨k7, d7, p7, q7, rfl, -, hd, hg⟩
  have HM7 := iD (HK2.out.grown HM6.out hg.out hd.out)
  clear hd hg
  refine ⟨_, rfl, fun _ => ?_, fun AA' => ?_⟩
  ·exact HM7.out
  replace AA := AA' rfl
  clear AA'
  try dsimp only at AA
  refine mW (i := 10) (d := 141) (v := ?_) (w' := ?_) rfl rfl (zB rfl) (fun ρ AB => ?_) ?_ ?_
  rotate_left 2
  ·(have e131 := tm AB hsz 131 rfl (zD rfl rfl rfl rfl (zD rfl rfl rfl rfl (zC rfl zA))); have e134 := tm AB hsz 134 rfl (zC rfl (zC rfl zA)); have e137 := tm AB hsz 137 rfl (zC rfl zA); have e140 := tm AB hsz 140 rfl zA; clear AB; go_simp; first | with_reducible rfl | (constructor <;> with_reducible rfl))
  ·refine fun _ => ?_
   exact HK2.out.later HM7.out ((Below.refl _ _).alloc lR _)
  intro AA'
  replace AA := AA' rfl
  clear AA'
  try dsimp only at AA
  refine oT 11 17 ?_ rfl rfl (zB rfl) AA (fun ρ AB w hSw => ?_) ?_
  rotate_left
  ·(have e141 := tm AB hsz 141 rfl zA; clear AB; (try dsimp only at hSw); go_simp; try with_reducible rfl)
  refine yG hn2 ?_
  clear AA hn2 b7 b11 b12 hsz A Q2
  simp only [yF, zu, yQ, xO, xP]
  clear HM5
  have hg7 : w1.heap.size < w7.heap.size := (HP0.out _ (HP1.out _ (HP2.out _ HM7.out).1).1).1.x.dk.lt
  have HVN := iD (Sl.newest (w := w7) (cs := #[.int .i64 ek, .int .i64 ed, .int .i64 ep, .int .i64 eq, .int .i64 k5, .int .i64 d5, .int .i64 p5, .int .i64 q5, .int .i64 k6, .int .i64 d6, .int .i64 p6, .int .i64 q6, .int .i64 k7, .int .i64 d7, .int .i64 p7, .int .i64 q7]) (T := 44) (fr := (0, 0)) (n := 4) (size := 4) rfl (by rfl) (by decide))
  obtain ⟨evs, hevs⟩ : ∃ evs : List Ev, evs = [⟨ek, ed, ep, eq⟩, ⟨k5, d5, p5, q5⟩, ⟨k6, d6, p6, q6⟩, ⟨k7, d7, p7, q7⟩] := ⟨_, rfl⟩
  have hz7 : (w7.alloc (.cells #[.int .i64 ek, .int .i64 ed, .int .i64 ep, .int .i64 eq, .int .i64 k5, .int .i64 d5, .int .i64 p5, .int .i64 q5, .int .i64 k6, .int .i64 d6, .int .i64 p6, .int .i64 q6, .int .i64 k7, .int .i64 d7, .int .i64 p7, .int .i64 q7] 44)).heap.size = w7.heap.size + 1 := by simp
  have HVX : Hid (SlX (w7.alloc (.cells #[.int .i64 ek, .int .i64 ed, .int .i64 ep, .int .i64 eq, .int .i64 k5, .int .i64 d5, .int .i64 p5, .int .i64 q5, .int .i64 k6, .int .i64 d6, .int .i64 p6, .int .i64 q6, .int .i64 k7, .int .i64 d7, .int .i64 p7, .int .i64 q7] 44)) w1.heap.size 4 (some ⟨w7.heap.size, 0, none⟩) 4 4 (evs.flatMap Ev.cells)) := ⟨by rw [hz7, hevs]; exact HVN.out, fun b off e => by injection e with e; injection e; omega⟩
  clear hevs HVN hz7
  obtain ⟨M3, hM3⟩ : ∃ M : World → Prop, M = fun W' => M2 W' ∧ SlX W' w1.heap.size 4 (some ⟨w7.heap.size, 0, none⟩) 4 4 (evs.flatMap Ev.cells) := ⟨_, rfl⟩
  have HK3 : Hid (xi w1.heap.size M3) := by unfold Hid; rw [hM3]; exact HK2.out.and (xi.slx)
  have HP3 : Hid (∀ W', M3 W' → M2 W' ∧ SlX W' w1.heap.size 4 (some ⟨w7.heap.size, 0, none⟩) 4 4 (evs.flatMap Ev.cells)) := fun W' h => by rw [hM3] at h; exact h
  have HM3 : Hid (M3 (w7.alloc (.cells #[.int .i64 ek, .int .i64 ed, .int .i64 ep, .int .i64 eq, .int .i64 k5, .int .i64 d5, .int .i64 p5, .int .i64 q5, .int .i64 k6, .int .i64 d6, .int .i64 p6, .int .i64 q6, .int .i64 k7, .int .i64 d7, .int .i64 p7, .int .i64 q7] 44))) := by unfold Hid; rw [hM3]; exact ⟨HK2.out.later HM7.out ((Below.refl _ _).alloc lR _), HVX.out⟩
  clear hM3
  clear HVX HM7
  generalize World.alloc w7 _ = w8 at *
  generalize w7.heap.size = lb at *
  go_wp2_with fail
  refine yO [(9, 0), (0, 1), (7, 0), (4, 1), (119, 0), (0, 2), (26, 1), (109, 0)] 144 (4) (HnF M3 4) (by (try dsimp only [gt]); exact ⟨0, rfl, Nat.zero_le _, rfl, HM3⟩) (by kernel_rfl) ?_
  intro u2 p144 gk wf a hrel ha J2 K2 hJ2 hK2
  dsimp only [zi, Go.Proofs.YtepicjpdhpojnaaGreatDoor.v1, Nat.reduceAdd] at ha
  subst ha
  clear HM3 w8
  obtain ⟨t, rfl, ht, rfl, HM3⟩ := hrel
  by_cases hlt2 : t < 4
  ·obtain ⟨be, oe, x, hAe, hbe, hx, hc⟩ := (HP3.out wf HM3.out).2.1.at (fun _ => rfl) (by decide) hlt2
   injection hAe with hAe
   injection hAe with hAe1 hAe2
   subst hAe1 hAe2
   obtain ⟨vk, vd, vp, vq⟩ := x
   have c0 : wf.cell? ⟨lb, t * 4, none⟩ = some (.int .i64 vk) := by have h := hc 0 _ rfl; simpa using h
   have c1 : wf.cell? ⟨lb, t * 4 + 1, none⟩ = some (.int .i64 vd) := by have h := hc 1 _ rfl; simpa using h
   have c2 : wf.cell? ⟨lb, t * 4 + 2, none⟩ = some (.int .i64 vp) := by have h := hc 2 _ rfl; simpa using h
   have c3 : wf.cell? ⟨lb, t * 4 + 3, none⟩ = some (.int .i64 vq) := by have h := hc 3 _ rfl; simpa using h
   clear hc hx hbe
   go_upto_region 22 with (fail)
   clear c0 c1 c2 c3
   have HME := iD (HK3.out.later HM3.out ((Below.refl wf.heap.size wf).alloc lR (.cells #[.int .i64 vk, .int .i64 vd, .int .i64 vp, .int .i64 vq] 44)))
   have HEB := iD (Blk.new wf 44 #[.int .i64 vk, .int .i64 vd, .int .i64 vp, .int .i64 vq])
   clear HM3
   generalize World.alloc wf _ = V at *
   obtain ⟨eb, heb⟩ : ∃ x, x = wf.heap.size := ⟨_, rfl⟩
   rw [← heb] at HEB ⊢
   clear heb
   have k0 := (HN2.out _ (HP3.out _ HME.out).1).cell 0
   have k1 := (HN2.out _ (HP3.out _ HME.out).1).cell 1
   have g0 := (HP2.out _ (HP3.out _ HME.out).1).2.cell 0
   have g1 := (HP2.out _ (HP3.out _ HME.out).1).2.cell 1
   have g2 := (HP2.out _ (HP3.out _ HME.out).1).2.cell 2
   have v0 := HEB.out.cell 0
   have v1 := HEB.out.cell 1
   have v2 := HEB.out.cell 2
   have v3 := HEB.out.cell 3
   go_wp2_with fail
   clear k0 k1 g0 g1 g2 v0 v1 v2 v3
   refine (vm An Ad X1 X2 X3 6 cn nd cd a1 b1 a2 b2 a3 b3 ns ds FX vk vd vp vq V (HX2.out _ (HP3.out _ HME.out).1)).mono ?_
   intro e wg hp
   obtain ⟨P1, P2, P3, p1, o1, p2, o2, p3, o3, rfl, hf, hb⟩ := hp.all
   obtain ⟨E2, hE2⟩ : ∃ E, E = zR ns ds FX vk vd vp vq := ⟨_, rfl⟩
   have HE2 := iD hE2
   rw [← hE2]
   have HMG := iD (HK3.out.later (HK3.out.later HME.out hb.out) ((Below.refl wg.heap.size wg).alloc lR (.cells #[.slice P1 p1 o1, .slice P2 p2 o2, .slice P3 p3 o3] 35)))
   have HEG := iD ((HEB.out.below hb.out HEB.out.lt).alloc (.cells #[.slice P1 p1 o1, .slice P2 p2 o2, .slice P3 p3 o3] 35))
   have HFG := iD (yE hf.out ((Below.refl wg.heap.size wg).alloc lR (.cells #[.slice P1 p1 o1, .slice P2 p2 o2, .slice P3 p3 o3] 35)))
   have HBG := iD (Blk.new wg 35 #[.slice P1 p1 o1, .slice P2 p2 o2, .slice P3 p3 o3])
   clear hE2 hp hf hb HME HEB
   go_upto_region 23 with (fail)
   generalize World.alloc wg _ = V2 at *
   obtain ⟨yb, hyb⟩ : ∃ x, x = wg.heap.size := ⟨_, rfl⟩
   rw [← hyb] at HBG ⊢
   clear hyb
   have k0 := (HN2.out _ (HP3.out _ HMG.out).1).cell 0
   have k1 := (HN2.out _ (HP3.out _ HMG.out).1).cell 1
   have g0 := (HP2.out _ (HP3.out _ HMG.out).1).2.cell 0
   have g1 := (HP2.out _ (HP3.out _ HMG.out).1).2.cell 1
   have g2 := (HP2.out _ (HP3.out _ HMG.out).1).2.cell 2
   have v0 := HEG.out.cell 0
   have v1 := HEG.out.cell 1
   have v2 := HEG.out.cell 2
   have v3 := HEG.out.cell 3
   go_wp2_with fail
   clear k0 k1 g0 g1 g2 v0 v1 v2 v3
   refine (sJ An Ad X1 X2 X3 6 cn nd cd a1 b1 a2 b2 a3 b3 ns ds FX vk vd vp vq V2 (HX2.out _ (HP3.out _ HMG.out).1)).mono ?_
   intro e wh hp
   obtain ⟨Q1, Q2, Q3, q1, x1, q2, x2, q3, x3, rfl, hf, hb⟩ := hp.all
   rw [← HE2.out]
   have HMH := iD (HK3.out.later (HK3.out.later HMG.out hb.out) ((Below.refl wh.heap.size wh).alloc lR (.cells #[.slice Q1 q1 x1, .slice Q2 q2 x2, .slice Q3 q3 x3] 35)))
   have HFH := iD (yE hf.out ((Below.refl wh.heap.size wh).alloc lR (.cells #[.slice Q1 q1 x1, .slice Q2 q2 x2, .slice Q3 q3 x3] 35)))
   have HFP := iD (yE (yE HFG.out hb.out) ((Below.refl wh.heap.size wh).alloc lR (.cells #[.slice Q1 q1 x1, .slice Q2 q2 x2, .slice Q3 q3 x3] 35)))
   have HBP := iD ((HBG.out.below hb.out HBG.out.lt).alloc (.cells #[.slice Q1 q1 x1, .slice Q2 q2 x2, .slice Q3 q3 x3] 35))
   have HBH := iD (Blk.new wh 35 #[.slice Q1 q1 x1, .slice Q2 q2 x2, .slice Q3 q3 x3])
   clear hp hf hb HMG HEG HFG HBG
   go_upto_region 24 with (fail)
   generalize World.alloc wh _ = V3 at *
   obtain ⟨zb, hzb⟩ : ∃ x, x = wh.heap.size := ⟨_, rfl⟩
   rw [← hzb] at HBH ⊢
   clear hzb
   have qe : (E2 != E2) = false := by simp
   have g0 := HBP.out.cell 0
   have g1 := HBP.out.cell 1
   have g2 := HBP.out.cell 2
   have h0 := HBH.out.cell 0
   have h1 := HBH.out.cell 1
   have h2 := HBH.out.cell 2
   go_wp2_with fail
   clear qe g0 g1 g2 h0 h1 h2
   refine (qX P1 P2 P3 Q1 Q2 Q3 p1 o1 p2 o2 p3 o3 q1 x1 q2 x2 q3 x3 (stF ns ds FX vk vd vp vq) V3 HFP.out.1 HFP.out.2.1 HFP.out.2.2 HFH.out.1 HFH.out.2.1 HFH.out.2.2).mono ?_
   rintro e V4 ⟨rfl, hb⟩
   have HM3 := iD (HK3.out.later HMH.out hb)
   clear hb HMH HFP HFH HBP HBH
   go_wp2_with fail
   refine Handed.intro (4 - (t + 1)) (by omega) (hJ2 _ _ _ (vL.back 144 ?_ (by kernel_rfl)))
   dsimp only [gt]
   exact ⟨t + 1, by go_num, by omega, rfl, HM3⟩
  have hii : decide ((t : Int) < 4) = false := by simp; omega
  have hii2 : decide (t < 4) = false := by simp; omega
  have k0 := (HN2.out _ (HP3.out _ HM3.out).1).cell 0
  have k1 := (HN2.out _ (HP3.out _ HM3.out).1).cell 1
  have g0 := (HP2.out _ (HP3.out _ HM3.out).1).2.cell 0
  have g1 := (HP2.out _ (HP3.out _ HM3.out).1).2.cell 1
  have g2 := (HP2.out _ (HP3.out _ HM3.out).1).2.cell 2
  go_wp2_with fail
  clear k0 k1 g0 g1 g2 hii hii2
  refine (kg An Ad X1 X2 X3 (some ⟨lb, 0, none⟩) 6 cn nd cd a1 b1 a2 b2 a3 b3 4 4 ns ds FX evs wf (HX2.out _ (HP3.out _ HM3.out).1) (HP3.out _ HM3.out).2.1).mono ?_
  intro e wg hp
  obtain ⟨P1, P2, P3, p1, o1, p2, o2, p3, o3, rfl, hf, hb⟩ := hp.all
  obtain ⟨kr, hkr⟩ : ∃ k, k = ruK ns ds FX evs := ⟨_, rfl⟩
  have HKR := iD hkr
  rw [← hkr, ← HEE.out]
  have HMG := iD (HK3.out.later (HK3.out.later HM3.out hb.out) ((Below.refl wg.heap.size wg).alloc lR (.cells #[.slice P1 p1 o1, .slice P2 p2 o2, .slice P3 p3 o3] 35)))
  have HFG := iD (yE hf.out ((Below.refl wg.heap.size wg).alloc lR (.cells #[.slice P1 p1 o1, .slice P2 p2 o2, .slice P3 p3 o3] 35)))
  have HBG := iD (Blk.new wg 35 #[.slice P1 p1 o1, .slice P2 p2 o2, .slice P3 p3 o3])
  clear hkr hp hf hb HM3
  go_upto_region 28 with (fail)
  generalize World.alloc wg _ = V2 at *
  obtain ⟨yb, hyb⟩ : ∃ x, x = wg.heap.size := ⟨_, rfl⟩
  rw [← hyb] at HBG ⊢
  clear hyb
  have k0 := (HN2.out _ (HP3.out _ HMG.out).1).cell 0
  have k1 := (HN2.out _ (HP3.out _ HMG.out).1).cell 1
  have g0 := (HP2.out _ (HP3.out _ HMG.out).1).2.cell 0
  have g1 := (HP2.out _ (HP3.out _ HMG.out).1).2.cell 1
  have g2 := (HP2.out _ (HP3.out _ HMG.out).1).2.cell 2
  go_wp2_with fail
  clear k0 k1 g0 g1 g2
  refine (l6 An Ad X1 X2 X3 (some ⟨lb, 0, none⟩) 6 cn nd cd a1 b1 a2 b2 a3 b3 4 4 ns ds FX evs V2 (HX2.out _ (HP3.out _ HMG.out).1) (HP3.out _ HMG.out).2.1).mono ?_
  intro e wh hp
  obtain ⟨Q1, Q2, Q3, q1, x1, q2, x2, q3, x3, rfl, hf, hb⟩ := hp.all
  rw [← HKR.out, ← HEE.out]
  have HMH := iD (HK3.out.later (HK3.out.later HMG.out hb.out) ((Below.refl wh.heap.size wh).alloc lR (.cells #[.slice Q1 q1 x1, .slice Q2 q2 x2, .slice Q3 q3 x3] 35)))
  have HFH := iD (yE hf.out ((Below.refl wh.heap.size wh).alloc lR (.cells #[.slice Q1 q1 x1, .slice Q2 q2 x2, .slice Q3 q3 x3] 35)))
  have HFP := iD (yE (yE HFG.out hb.out) ((Below.refl wh.heap.size wh).alloc lR (.cells #[.slice Q1 q1 x1, .slice Q2 q2 x2, .slice Q3 q3 x3] 35)))
  have HBP := iD ((HBG.out.below hb.out HBG.out.lt).alloc (.cells #[.slice Q1 q1 x1, .slice Q2 q2 x2, .slice Q3 q3 x3] 35))
  have HBH := iD (Blk.new wh 35 #[.slice Q1 q1 x1, .slice Q2 q2 x2, .slice Q3 q3 x3])
  clear hp hf hb HMG HFG HBG
  go_upto_region 29 with (fail)
  generalize World.alloc wh _ = V3 at *
  obtain ⟨zb, hzb⟩ : ∃ x, x = wh.heap.size := ⟨_, rfl⟩
  rw [← hzb] at HBH ⊢
  clear hzb
  have k0 := (HN2.out _ (HP3.out _ HMH.out).1).cell 0
  have k1 := (HN2.out _ (HP3.out _ HMH.out).1).cell 1
  have g0 := (HP2.out _ (HP3.out _ HMH.out).1).2.cell 0
  have g1 := (HP2.out _ (HP3.out _ HMH.out).1).2.cell 1
  have g2 := (HP2.out _ (HP3.out _ HMH.out).1).2.cell 2
  go_wp2_with fail
  clear k0 k1 g0 g1 g2
  refine (nA An Ad X1 X2 X3 6 cn nd cd a1 b1 a2 b2 a3 b3 ns ds FX V3 (HX2.out _ (HP3.out _ HMH.out).1)).mono ?_
  intro e V4 hp
  obtain ⟨Fu, fm, fc, fl, rfl, hfl, hfq, hb⟩ := hp.all
  rw [← HEE.out]
  have HM4 := iD (HK3.out.later HMH.out hb.out)
  have HP4F := iD (yE HFP.out hb.out); have HH4F := iD (yE HFH.out hb.out)
  have HBP4 := iD (HBP.out.below hb.out HBP.out.lt); have HBH4 := iD (HBH.out.below hb.out HBH.out.lt)
  have HFL := iD hfl.out; have HFQ := iD hfq.out
  clear hp hfl hfq hb HMH HFP HFH HBP HBH
  have k0 := (HN2.out _ (HP3.out _ HM4.out).1).cell 0
  have k1 := (HN2.out _ (HP3.out _ HM4.out).1).cell 1
  have g0 := (HP2.out _ (HP3.out _ HM4.out).1).2.cell 0
  have g1 := (HP2.out _ (HP3.out _ HM4.out).1).2.cell 1
  have g2 := (HP2.out _ (HP3.out _ HM4.out).1).2.cell 2
  go_wp2_with fail
  clear k0 k1 g0 g1 g2
  refine (pT An Ad X1 X2 X3 6 cn nd cd a1 b1 a2 b2 a3 b3 ns ds FX V4 (HX2.out _ (HP3.out _ HM4.out).1)).mono ?_
  intro e V5 hp
  obtain ⟨Gu, gm, gc, gl, rfl, hgl, hgq, hb⟩ := hp.all
  rw [← HEE.out]
  obtain rfl : gl = fl := hgq.out.one HFQ.out
  have HM5 := iD (HK3.out.later HM4.out hb.out)
  have HP5F := iD (yE HP4F.out hb.out); have HH5F := iD (yE HH4F.out hb.out)
  have HBP5 := iD (HBP4.out.below hb.out HBP4.out.lt); have HBH5 := iD (HBH4.out.below hb.out HBH4.out.lt)
  have HFL5 := iD ((HFL.out.below hb.out lR).more hb.out.size); have HGL5 := iD hgl.out
  clear hp hgl hgq hb HM4 HP4F HH4F HBP4 HBH4 HFL HFQ
  have qk : (kr != kr) = false := by simp
  have qe : (E != E) = false := by simp
  have g0 := HBP5.out.cell 0
  have g1 := HBP5.out.cell 1
  have g2 := HBP5.out.cell 2
  have h0 := HBH5.out.cell 0
  have h1 := HBH5.out.cell 1
  have h2 := HBH5.out.cell 2
  go_wp2_with fail
  clear qk qe g0 g1 g2 h0 h1 h2
  refine (qX P1 P2 P3 Q1 Q2 Q3 p1 o1 p2 o2 p3 o3 q1 x1 q2 x2 q3 x3 (ruF ns ds FX evs) V5 HP5F.out.1 HP5F.out.2.1 HP5F.out.2.2 HH5F.out.1 HH5F.out.2.1 HH5F.out.2.2).mono ?_
  rintro e V6 ⟨rfl, hb⟩
  have HM6 := iD (HK3.out.later HM5.out hb)
  have HFL6 := iD ((HFL5.out.below hb lR).more hb.size); have HGL6 := iD ((HGL5.out.below hb lR).more hb.size)
  clear hb HM5 HP5F HH5F HBP5 HBH5 HFL5 HGL5
  go_wp2_with fail
  refine (rt Fu Gu fm fc gm gc V6.heap.size V6.heap.size gl gl V6 HFL6.out HGL6.out lR lR).mono ?_
  rintro e V7 ⟨rfl, hb⟩
  have HM7 := iD (HK3.out.later HM6.out hb)
  have qd : decide (gl = gl) = true := by simp
  clear hb HM6 HFL6 HGL6
  have k0 := (HN2.out _ (HP3.out _ HM7.out).1).cell 0
  have k1 := (HN2.out _ (HP3.out _ HM7.out).1).cell 1
  go_wp2_with fail
  clear qd k0 k1
  refine (mC w1.heap.size An Ad 6 cn nd cd V7 (HP0.out _ (HP1.out _ (HP2.out _ (HP3.out _ HM7.out).1).1).1).1.x.dk (by decide) (by decide)).mono ?_
  rintro e V8 ⟨Az, nz, cz, z, rfl, hd, hg, hO, hz⟩
  have hgv : w1.heap.size < V7.heap.size := (HP0.out _ (HP1.out _ (HP2.out _ (HP3.out _ HM7.out).1).1).1).1.x.dk.lt
  have HM8 := iD (HK2.out.grown (HP3.out _ HM7.out).1 hg.out hd.out)
  have HZ8 : Hid (SlX V8 w1.heap.size 1 Az nz cz (zK z)) := SlX.of_own hO.out hgv
  have hzn6 := hz.out.2.1
  have hgv8 := hg.out.size
  clear hd hg hO hz HM7
  go_wp2_with fail
  obtain ⟨M4, hM4⟩ : ∃ M : World → Prop, M = fun W' => M2 W' ∧ SlX W' w1.heap.size 1 Az nz cz (zK z) ∧ Blk W' V8.heap.size 22 #[.slice Az0 nz0 cz0, .slice Az nz cz] := ⟨_, rfl⟩
  have HK4 : Hid (xi w1.heap.size M4) := by unfold Hid; rw [hM4]; exact HK2.out.and (xi.slx.and (xi.blk (by omega)))
  have HP4 : Hid (∀ W', M4 W' → M2 W' ∧ SlX W' w1.heap.size 1 Az nz cz (zK z) ∧ Blk W' V8.heap.size 22 #[.slice Az0 nz0 cz0, .slice Az nz cz]) := fun W' h => by rw [hM4] at h; exact h
  have HM4 : Hid (M4 (V8.alloc (.cells #[.slice Az0 nz0 cz0, .slice Az nz cz] 22))) := by unfold Hid; rw [hM4]; exact ⟨HK2.out.later HM8.out ((Below.refl _ _).alloc lR _), HZ8.out.alloc _, Blk.new _ _ _⟩
  clear hM4
  clear HM8 HZ8
  generalize World.alloc V8 _ = V9 at *
  generalize V8.heap.size = zb at *
  refine yO [(9, 0), (0, 1), (23, 0), (0, 1), (0, 0), (0, 1), (0, 0), (4, 1), (186, 0), (0, 2), (48, 1), (0, 0)] 231 (2) (HnF M4 2) (by (try dsimp only [gt]); exact ⟨0, rfl, Nat.zero_le _, rfl, HM4⟩) (by kernel_rfl) ?_
  intro u3 p231 gk wi a hrel ha J3 K3 hJ3 hK3
  dsimp only [zi, Go.Proofs.YtepicjpdhpojnaaGreatDoor.v1, Nat.reduceAdd] at ha
  subst ha
  clear HM4 V9
  obtain ⟨r, rfl, hr3, rfl, HM4⟩ := hrel
  by_cases hlt3 : r < 2; rotate_left
  ·have hii : decide ((r : Int) < 2) = false := by simp; omega
   have hii2 : decide (r < 2) = false := by simp; omega
   have HMB := iD (HP2.out _ (HP4.out _ HM4.out).1).1
   go_wp2_with fail
   refine Handed.intro (3 - (i + 1)) (by omega) (hJ1 _ _ _ (vL.back 120 ?_ (by kernel_rfl)))
   dsimp only [gt]
   exact ⟨i + 1, by go_num, by omega, rfl, HMB⟩
  have hdi : decide ((r : Int) < 2) = true := by simp; omega
  obtain ⟨Zz, zn, zc, zl, hzc, HZZ, hzn⟩ : ∃ (Zz : Option Addr) (zn zc : Nat) (zl : List Int), wi.cell? ⟨zb, r, none⟩ = some (.slice Zz zn zc) ∧ Hid (∀ W', M4 W' → Sl W' W'.heap.size 1 Zz zn zc (zK zl)) ∧ zn ≤ 10000 := by
   have hb := (HP4.out wi HM4.out).2.2
   rcases (show r = 0 ∨ r = 1 by omega) with rfl | rfl
   ·exact ⟨Az0, nz0, cz0, z0, hb.cell 0, fun W' h => (HQI.out W' (HP1.out _ (HP2.out _ (HP4.out W' h).1).1).1).z, by omega⟩
   ·exact ⟨Az, nz, cz, z, hb.cell 1, fun W' h => (HP4.out W' h).2.1.1, by omega⟩
  have g1 := (HP2.out _ (HP4.out _ HM4.out).1).2.cell 1
  have f1 : wi.cell? ⟨nb + 1, 1, none⟩ = some (.slice Al nl cl) := (HP0.out _ (HP1.out _ (HP2.out _ (HP4.out _ HM4.out).1).1).1).1.bf.cell 1
  have hgi : w1.heap.size < wi.heap.size := (HP0.out _ (HP1.out _ (HP2.out _ (HP4.out _ HM4.out).1).1).1).1.x.dk.lt
  go_wp2_with fail
  clear g1 f1 hzc hdi
  obtain ⟨M5, hM5⟩ : ∃ M : World → Prop, M = fun W' => M4 W' ∧ Blk W' wi.heap.size 33 #[.slice Ak0 nk0 ck0, .slice X2 a2 b2, .slice Al nl cl] := ⟨_, rfl⟩
  have HK5 : Hid (xi w1.heap.size M5) := by unfold Hid; rw [hM5]; exact HK4.out.and (xi.blk (by omega))
  have HP5 : Hid (∀ W', M5 W' → M4 W' ∧ Blk W' wi.heap.size 33 #[.slice Ak0 nk0 ck0, .slice X2 a2 b2, .slice Al nl cl]) := fun W' h => by rw [hM5] at h; exact h
  have HM5 : Hid (M5 (wi.alloc (.cells #[.slice Ak0 nk0 ck0, .slice X2 a2 b2, .slice Al nl cl] 33))) := by unfold Hid; rw [hM5]; exact ⟨HK4.out.later HM4.out ((Below.refl _ _).alloc lR _), Blk.new _ _ _⟩
  clear hM5
  clear HM4
  generalize World.alloc wi _ = V10 at *
  generalize wi.heap.size = kb at *
  refine yO [(9, 0), (0, 1), (25, 0), (0, 1), (0, 0), (4, 1), (197, 0), (0, 2), (36, 1), (1, 0)] 242 (3) (HnF M5 3) (by (try dsimp only [gt]); exact ⟨0, rfl, Nat.zero_le _, rfl, HM5⟩) (by kernel_rfl) ?_
  intro u4 p242 gk wj a hrel ha J4 K4 hJ4 hK4
  dsimp only [zi, Go.Proofs.YtepicjpdhpojnaaGreatDoor.v1, Nat.reduceAdd] at ha
  subst ha
  clear HM5 V10
  obtain ⟨m, rfl, hm4, rfl, HM5⟩ := hrel
  by_cases hlt4 : m < 3; rotate_left
  ·have hii : decide ((m : Int) < 3) = false := by simp; omega
   have hii2 : decide (m < 3) = false := by simp; omega
   have HMB := iD (HP5.out _ HM5.out).1
   go_wp2_with fail
   refine Handed.intro (2 - (r + 1)) (by omega) (hJ3 _ _ _ (vL.back 231 ?_ (by kernel_rfl)))
   dsimp only [gt]
   exact ⟨r + 1, by go_num, by omega, rfl, HMB⟩
  have hdi : decide ((m : Int) < 3) = true := by simp; omega
  obtain ⟨Kk, kn, kc, kl, hkc, HKK⟩ : ∃ (Kk : Option Addr) (kn kc : Nat) (kl : List Lk), wj.cell? ⟨kb, m, none⟩ = some (.slice Kk kn kc) ∧ Hid (∀ W', M5 W' → Sl W' W'.heap.size 3 Kk kn kc (kl.flatMap Lk.cells)) := by
   have hb := (HP5.out wj HM5.out).2
   rcases (show m = 0 ∨ m = 1 ∨ m = 2 by omega) with rfl | rfl | rfl
   ·exact ⟨Ak0, nk0, ck0, K0, hb.cell 0, fun W' h => (HQI.out W' (HP1.out _ (HP2.out _ (HP4.out _ (HP5.out W' h).1).1).1).1).k⟩
   ·exact ⟨X2, a2, b2, FX.ls, hb.cell 1, fun W' h => (HX2.out W' (HP4.out _ (HP5.out W' h).1).1).hl⟩
   ·exact ⟨Al, nl, cl, F.ls, hb.cell 2, fun W' h => (HP0.out _ (HP1.out _ (HP2.out _ (HP4.out _ (HP5.out W' h).1).1).1).1).1.x.hl.1⟩
  have hgj : w1.heap.size < wj.heap.size := (HP0.out _ (HP1.out _ (HP2.out _ (HP4.out _ (HP5.out _ HM5.out).1).1).1).1).1.x.dk.lt
  go_wp2_with fail
  clear hkc hdi
  obtain ⟨M6, hM6⟩ : ∃ M : World → Prop, M = fun W' => M5 W' ∧ Blk W' wj.heap.size 4 #[.bool false, .bool true] := ⟨_, rfl⟩
  have HK6 : Hid (xi w1.heap.size M6) := by unfold Hid; rw [hM6]; exact HK5.out.and (xi.blk (by omega))
  have HP6 : Hid (∀ W', M6 W' → M5 W' ∧ Blk W' wj.heap.size 4 #[.bool false, .bool true]) := fun W' h => by rw [hM6] at h; exact h
  have HM6 : Hid (M6 (wj.alloc (.cells #[.bool false, .bool true] 4))) := by unfold Hid; rw [hM6]; exact ⟨HK5.out.later HM5.out ((Below.refl _ _).alloc lR _), Blk.new _ _ _⟩
  clear hM6
  clear HM5
  generalize World.alloc wj _ = V11 at *
  generalize wj.heap.size = eb at *
  have HX6 : Hid (∀ W', M6 W' → M2 W') := fun W' h => (HP4.out _ (HP5.out _ (HP6.out W' h).1).1).1
  refine yO [(9, 0), (0, 1), (27, 0), (4, 1), (203, 0), (0, 2), (29, 1), (2, 0)] 248 (2) (HnF M6 2) (by (try dsimp only [gt]); exact ⟨0, rfl, Nat.zero_le _, rfl, HM6⟩) (by kernel_rfl) ?_
  intro u5 p248 gk wk a hrel ha J5 K5 hJ5 hK5
  dsimp only [zi, Go.Proofs.YtepicjpdhpojnaaGreatDoor.v1, Nat.reduceAdd] at ha
  subst ha
  clear HM6 V11
  obtain ⟨v, rfl, hv5, rfl, HM6⟩ := hrel
  by_cases hlt5 : v < 2; rotate_left
  ·have hii : decide ((v : Int) < 2) = false := by simp; omega
   have hii2 : decide (v < 2) = false := by simp; omega
   have HMB := iD (HP6.out _ HM6.out).1
   go_wp2_with fail
   refine Handed.intro (3 - (m + 1)) (by omega) (hJ4 _ _ _ (vL.back 242 ?_ (by kernel_rfl)))
   dsimp only [gt]
   exact ⟨m + 1, by go_num, by omega, rfl, HMB⟩
  obtain ⟨ea, hec⟩ : ∃ ea : Bool, wk.cell? ⟨eb, v, none⟩ = some (.bool ea) := by
   have hb := (HP6.out wk HM6.out).2
   rcases (show v = 0 ∨ v = 1 by omega) with rfl | rfl
   ·exact ⟨false, hb.cell 0⟩
   ·exact ⟨true, hb.cell 1⟩
  have k0 := (HN2.out _ (HX6.out _ HM6.out)).cell 0
  have k1 := (HN2.out _ (HX6.out _ HM6.out)).cell 1
  have g0 := (HP2.out _ (HX6.out _ HM6.out)).2.cell 0
  have g1 := (HP2.out _ (HX6.out _ HM6.out)).2.cell 1
  have g2 := (HP2.out _ (HX6.out _ HM6.out)).2.cell 2
  go_wp2_with fail
  clear k0 k1 g0 g1 g2 hec
  refine (mO An Ad X1 X2 X3 Kk Zz 6 cn nd cd a1 b1 a2 b2 a3 b3 kn kc zn zc ns ds FX kl zl ea wk (HX2.out _ (HX6.out _ HM6.out)) (HKK.out _ (HP6.out _ HM6.out).1) (HZZ.out _ (HP5.out _ (HP6.out _ HM6.out).1).1) hzn).mono ?_
  intro e wl hp
  obtain ⟨sb, rfl, hsq, hb⟩ := hp.all
  obtain ⟨E3, hE3⟩ : ∃ E, E = yn ns ds FX kl zl := ⟨_, rfl⟩
  have HE3 := iD hE3
  rw [← hE3]
  have HML := iD (HK6.out.later HM6.out hb.out)
  have HSQ := iD hsq.out
  clear hE3 hp hsq hb HM6
  have k0 := (HN2.out _ (HX6.out _ HML.out)).cell 0
  have k1 := (HN2.out _ (HX6.out _ HML.out)).cell 1
  have g0 := (HP2.out _ (HX6.out _ HML.out)).2.cell 0
  have g1 := (HP2.out _ (HX6.out _ HML.out)).2.cell 1
  have g2 := (HP2.out _ (HX6.out _ HML.out)).2.cell 2
  go_wp2_with fail
  clear k0 k1 g0 g1 g2
  refine (qK An Ad X1 X2 X3 Kk Zz 6 cn nd cd a1 b1 a2 b2 a3 b3 kn kc zn zc ns ds FX kl zl ea wl (HX2.out _ (HX6.out _ HML.out)) (HKK.out _ (HP6.out _ HML.out).1) (HZZ.out _ (HP5.out _ (HP6.out _ HML.out).1).1) hzn).mono ?_
  intro e wm hp
  obtain ⟨sb', rfl, hsq, hb⟩ := hp.all
  obtain rfl : sb' = sb := hsq.out.one HSQ.out
  rw [← HE3.out]
  have HMM := iD (HK6.out.later HML.out hb.out)
  clear hp hsq hb HML HSQ
  have qe : (E3 != E3) = false := by simp
  rcases sb' with _ | _
  ·go_wp2_with fail
   refine Handed.intro (2 - (v + 1)) (by omega) (hJ5 _ _ _ (vL.back 248 ?_ (by kernel_rfl)))
   dsimp only [gt]
   exact ⟨v + 1, by go_num, by omega, rfl, HMM⟩
  ·go_wp2_with fail
   refine Handed.intro (2 - (v + 1)) (by omega) (hJ5 _ _ _ (vL.back 248 ?_ (by kernel_rfl)))
   dsimp only [gt]
   exact ⟨v + 1, by go_num, by omega, rfl, HMM⟩
end
section
open Go.ChangeShapes Go.WideShapes Go.ChangeAt Go.RowKit Go.Deep
section
variable {H : Type} {enc : TypeId × Value → H} {W : World} {base b : Nat} {sp : Nat → Bool} {hd : Bool} {r : Reach}
theorem wQ {α : Type} (y0 : α) (f : α → List Value) {size : Nat} (hsz : ∀ x, (f x).length = size) (hpos : 0 < size) (P : α → Prop) {t e : TypeId} (hu : Tryz.prog.underlying t = some (.slice e)) (hce : Tryz.prog.cellsOf e = size) (hel : ∀ {fuel : Nat} {cs : List Value} {x : DataW H × List MemPlace}, DataW.trod enc Tryz.prog W base sp hd fuel e cs = some x → ∃ y : α, cs = f y ∧ P y)
 {fuel : Nat} {cs : List Value} {x : DataW H × List MemPlace} (h : DataW.trod enc Tryz.prog W base sp hd fuel t cs = some x) :
 ∃ (A : Option Addr) (n c : Nat) (l : List α), cs = [.slice A n c] ∧ Sl W W.heap.size size A n c (l.flatMap f) ∧ ∀ y ∈ l, P y := by
 rcases open_slice hu h with ⟨rfl, _⟩ | ⟨a, len, cap, m, n, D, Pl, rfl, hb, hlc, hcm, hmm, _, hi⟩
 ·exact ⟨none, 0, 0, [], rfl, Sl.nil _ _ _, fun y hy => by cases hy⟩
 rw [hce] at hi
 have hlm : len ≤ m := by rw [hmm]; split <;> omega
 have hit : ∀ i, i < len → ∃ y : α, P y ∧ ∀ j u, (f y)[j]? = some u → W.cell? ((a.add (i * size)).add j) = some u := fun i hlt => by
  obtain ⟨cs', hc, ht⟩ := hi i (by omega)
  obtain ⟨y, rfl, hp⟩ := hel ht
  obtain ⟨_, _, hat⟩ := World.cells?_some hc
  exact ⟨y, hp, fun j u hu => by
   have hj : j < size := by rw [← hsz y]; exact (List.getElem?_eq_some_iff.1 hu).1
   rw [hat j hj]; exact hu⟩
 let g : Nat → α := fun i => if h : i < len then Classical.choose (hit i h) else y0
 have hgs : ∀ i, i < len → P (g i) ∧ ∀ j u, (f (g i))[j]? = some u → W.cell? ((a.add (i * size)).add j) = some u := fun i hlt => by
  have : g i = Classical.choose (hit i hlt) := dif_pos hlt
  rw [this]; exact Classical.choose_spec (hit i hlt)
 refine ⟨some a, len, cap, (List.range len).map g, rfl, ⟨?_, hlc, by simpa [maxLen] using hcm, (fun e => by cases e), fun h0 => ?_⟩, fun y hy => ?_⟩
 ·rw [yT hsz]; simp
 ·obtain ⟨gb, off, spot⟩ := a
  have h0c : 0 < (f (g 0)).length := by rw [hsz]; exact hpos
  have h00 := (hgs 0 h0).2 0 _ (List.getElem?_eq_getElem h0c)
  have hspot : spot = none := by simpa [Addr.add] using World.cell?_spot h00
  subst hspot
  simp only [xN] at hgs h00
  refine ⟨gb, off, rfl, uG h00, fun j u hu => ?_⟩
  have hj : j < len * size := by
   have := (List.getElem?_eq_some_iff.1 hu).1
   rwa [yT hsz, List.length_map, List.length_range] at this
  have hk : j / size < len := Nat.div_lt_of_lt_mul (by rw [Nat.mul_comm]; exact hj)
  have hm : j % size < size := Nat.mod_lt _ hpos
  have hdm : j / size * size + j % size = j := by rw [Nat.mul_comm]; exact Nat.div_add_mod j size
  have hat := ux hsz ((List.range len).map g) (j / size) (j % size) (g (j / size)) (by rw [List.getElem?_map, List.getElem?_range hk]; rfl) hm
  rw [hdm, hu] at hat
  have := (hgs (j / size) hk).2 (j % size) u hat.symm
  rw [Nat.add_assoc, hdm] at this
  exact this
 ·obtain ⟨i, hi, rfl⟩ := List.mem_map.1 hy
  exact (hgs i (List.mem_range.1 hi)).1
theorem rk {fuel : Nat} {cs : List Value} {x : DataW H × List MemPlace} (h : DataW.trod enc Tryz.prog W base sp hd fuel 46 cs = some x) : ∃ y : Lk, cs = y.cells ∧ True := by
 obtain ⟨ys, n, _, _, hl, hyl, hf⟩ := DataW.trod_struct Tryz.underlying46 h
 have h3 : cs.length = 3 := hl.trans (by kernel_rfl)
 match cs, h3 with
 | [c0, c1, c2], _ =>
  match ys, hyl with
  | [y0, y1, y2], _ =>
   have e0 := hf 0 _ rfl
   have e1 := hf 1 _ rfl
   have e2 := hf 2 _ rfl
   have c1e : Tryz.prog.cellsOf 3 = 1 := by kernel_rfl
   obtain ⟨a0, g0, _, _⟩ := DataW.trod_int Tryz.underlying3 e0
   obtain ⟨a1, g1, _, _⟩ := DataW.trod_int Tryz.underlying3 e1
   obtain ⟨a2, g2, _, _⟩ := DataW.trod_int Tryz.underlying3 e2
   simp [c1e] at g0 g1 g2
   subst g0 g1 g2
   exact ⟨⟨a0, a1, a2⟩, rfl, trivial⟩
structure SlV (α : Type) where
 A : Option Addr
 n : Nat
 c : Nat
 l : List α
theorem open_locks {v : Value} {d : DataW H} {p : List MemPlace} (_hv : Value.okWide Tryz.prog W r b 33 v) (h : DataW.Trod enc Tryz.prog W base sp hd 33 v d p) : ∃ x : SlV Lk, v = .slice x.A x.n x.c ∧ Sl W W.heap.size 3 x.A x.n x.c (x.l.flatMap Lk.cells) := by
 obtain ⟨A, n, c, rfl⟩ := okWide_slice Tryz.underlying33 _hv
 obtain ⟨fuel, hf⟩ := h
 obtain ⟨A', n', c', l, e, hs, _⟩ := wQ (size := 3) ⟨0, 0, 0⟩ Lk.cells (fun _ => rfl) (by decide) (fun _ => True) Tryz.underlying33 (by kernel_rfl) rk hf
 simp [Value.cells] at e
 obtain ⟨rfl, rfl, rfl⟩ := e
 exact ⟨⟨A, n, c, l⟩, rfl, hs⟩
end
end
section
open Go.ChangeShapes Go.WideShapes Go.ChangeAt Go.RowKit Go.Deep
section
variable {H : Type} {enc : TypeId × Value → H} {W : World} {base b : Nat} {sp : Nat → Bool} {hd : Bool} {r : Reach}
theorem qm {fuel : Nat} {cs : List Value} {x : DataW H × List MemPlace} (h : DataW.trod enc Tryz.prog W base sp hd fuel 3 cs = some x) : ∃ y : Int, cs = [Value.int .i64 y] ∧ True := by
 obtain ⟨a, e, _, _⟩ := DataW.trod_int Tryz.underlying3 h
 exact ⟨a, e, trivial⟩
theorem open_event {v : Value} {d : DataW H} {p : List MemPlace} (hv : Value.okWide Tryz.prog W r b 44 v) (h : DataW.Trod enc Tryz.prog W base sp hd 44 v d p) : ∃ x : Int × Int × Int × Int, v = .agg #[.int .i64 x.1, .int .i64 x.2.1, .int .i64 x.2.2.1, .int .i64 x.2.2.2] ∧ True := by
 obtain ⟨v0, v1, v2, v3, y0, y1, y2, y3, n, rfl, _, _, h0, h1, h2, h3⟩ := Joins.open_agg4 Tryz.underlying44 (by kernel_rfl) (by kernel_rfl) hv h
 obtain ⟨a0, e0, _, _⟩ := DataW.trod_int Tryz.underlying3 h0
 obtain ⟨a1, e1, _, _⟩ := DataW.trod_int Tryz.underlying3 h1
 obtain ⟨a2, e2, _, _⟩ := DataW.trod_int Tryz.underlying3 h2
 obtain ⟨a3, e3, _, _⟩ := DataW.trod_int Tryz.underlying3 h3
 simp at e0 e1 e2 e3
 subst e0 e1 e2 e3
 exact ⟨(a0, a1, a2, a3), rfl, trivial⟩
theorem open_field {v : Value} {d : DataW H} {p : List MemPlace} (hv : Value.okWide Tryz.prog W r b 35 v) (h : DataW.Trod enc Tryz.prog W base sp hd 35 v d p) : ∃ x : SlV Int × SlV Lk × SlV Int, v = .agg #[.slice x.1.A x.1.n x.1.c, .slice x.2.1.A x.2.1.n x.2.1.c, .slice x.2.2.A x.2.2.n x.2.2.c] ∧ Fd3 W x.1.A x.1.n x.1.c x.2.1.A x.2.1.n x.2.1.c x.2.2.A x.2.2.n x.2.2.c ⟨x.1.l, x.2.1.l, x.2.2.l⟩ := by
 obtain ⟨v0, v1, v2, y0, y1, y2, n, rfl, _, _, h0, h1, h2⟩ := Joins.open_agg3 Tryz.underlying35 (by kernel_rfl) (by kernel_rfl) hv h
 obtain ⟨A, m, c, l, e, hs, _⟩ := wQ (size := 1) (0 : Int) (fun z => [Value.int .i64 z]) (fun _ => rfl) (by decide) (fun _ => True) Tryz.underlying22 (by kernel_rfl) qm h0
 obtain ⟨A1, m1, c1, l1, e1, hs1, _⟩ := wQ (size := 3) ⟨0, 0, 0⟩ Lk.cells (fun _ => rfl) (by decide) (fun _ => True) Tryz.underlying33 (by kernel_rfl) rk h1
 obtain ⟨A2, m2, c2, l2, e2, hs2, _⟩ := wQ (size := 1) (0 : Int) (fun z => [Value.int .i64 z]) (fun _ => rfl) (by decide) (fun _ => True) Tryz.underlying22 (by kernel_rfl) qm h2
 simp at e e1 e2
 subst e e1 e2
 exact ⟨(⟨A, m, c, l⟩, ⟨A1, m1, c1, l1⟩, ⟨A2, m2, c2, l2⟩), rfl, hs, hs1, hs2⟩
end
theorem walk_FieldExact (w : World) (hl : Laid w) (A : Option Addr) (n c : Nat) (zs : List Int) (hs : Sl w w.heap.size 1 A n c (zK zs)) (hz : ∀ z ∈ zs, (Lit.int .i64 z).wf = true)
 (x : SlV Int × SlV Lk × SlV Int) (hx : Fd3 w x.1.A x.1.n x.1.c x.2.1.A x.2.1.n x.2.1.c x.2.2.A x.2.2.n x.2.2.c ⟨x.1.l, x.2.1.l, x.2.2.l⟩) (e : Int × Int × Int × Int) (_he : True)
 (A3 : Option Addr) (n3 c3 : Nat) (z3 : List Int) (hs3 : Sl w w.heap.size 1 A3 n3 c3 (zK z3)) (_hz3 : ∀ z ∈ z3, (Lit.int .i64 z).wf = true)
 (y : SlV Lk) (hy : Sl w w.heap.size 3 y.A y.n y.c (y.l.flatMap Lk.cells)) :
 Calls Tryz.prog 6 #[.slice A n c, .agg #[.slice x.1.A x.1.n x.1.c, .slice x.2.1.A x.2.1.n x.2.1.c, .slice x.2.2.A x.2.2.n x.2.2.c], .agg #[.int .i64 e.1, .int .i64 e.2.1, .int .i64 e.2.2.1, .int .i64 e.2.2.2], .slice A3 n3 c3, .slice y.A y.n y.c] w fun e w' => e = .returned (.bool true) ∧ Below w.heap.size w w' :=
 walkH_FieldExact w hl A n c zs hs hz x.1.A x.2.1.A x.2.2.A x.1.n x.1.c x.2.1.n x.2.1.c x.2.2.n x.2.2.c _ hx e.1 e.2.1 e.2.2.1 e.2.2.2 A3 n3 c3 z3 hs3 y.A y.n y.c y.l hy
end
end Go.Proofs.YtepicjpdhpojnaaGreatDoor
