import Derived.Test.YtepicjpdhpojnaaGreatDoorS17
import Derived.Test.YtepicjpdhpojnaaGreatDoorS23
import Derived.Test.YtepicjpdhpojnaaGreatDoorS16
import Derived.Test.YtepicjpdhpojnaaGreatDoorS22
import Derived.Test.YtepicjpdhpojnaaGreatDoorS02
import Derived.Test.YtepicjpdhpojnaaGreatDoorS05
import Derived.Deep.DeepCutAuto
set_option maxRecDepth 100000
set_option maxHeartbeats 16000000
namespace Go.Proofs.YtepicjpdhpojnaaGreatDoor
open Go.RowKit
section
variable {ns : List Nd} {ds : List Dv} {F : Fd} {ls : List Lk} {k x y : Lk}
theorem new_err (hc : checkN ns ds = 0) (h : GoodL ds ls) (hl : ls.length < 128) (hu : usdL ls k.key = false) (hd : 0 ≤ k.dev ∧ k.dev < ds.length) (hp : k.pos = 1 ∨ k.pos = 2) (hq : 0 ≤ k.key ∧ k.key ≤ 65536) (ho : othL ls k = false) :
 (addErr ns ds ls k ≠ 0 ∧ kindOf ds k.dev = 5) ∨ (addErr ns ds ls k = 0 ∧ GoodL ds (insL k ls) ∧ kindOf ds k.dev ≠ 5) := by
 unfold addErr
 rw [if_neg (by rw [locks_fine hc h]; simp)]
 by_cases hk : kindOf ds k.dev = 5
 ·have e : lkErr ds k = 6 := by unfold lkErr; rw [if_neg (by omega), if_neg (by omega), if_pos hk]
  rw [e, if_pos (by decide)]
  exact .inl ⟨by decide, hk⟩
 ·have e : lkErr ds k = 0 := by unfold lkErr; rw [if_neg (by omega), if_neg (by omega), if_neg hk, if_neg (by omega), if_neg (by omega), if_neg (by omega)]
  rw [e, if_neg (by simp), hu, if_neg (by simp), ho, if_neg (by simp), if_neg (by omega)]
  exact .inr ⟨rfl, ins_good h e hu ho hl, hk⟩
end
end Go.Proofs.YtepicjpdhpojnaaGreatDoor
namespace Go.Proofs.YtepicjpdhpojnaaGreatDoor
open Go.RowKit
theorem rmove_ok (An Ad As Al At : Option Addr) (nn cn nd cd n c nl cl nt ct : Nat) (ns : List Nd) (ds : List Dv) (F : Fd) (p : Int) (d : Nat) (w : World) (h : FdM w An Ad As Al At nn cn nd cd n c nl cl nt ct ns ds F) (he : fdErr ns ds F = 0) (hnd : d < nd) (hpp : posB p = true) (hk : kindOf ds (d : Int) ≠ 5) (hlk : lckL F.ls (d : Int) = none) (hsk : ¬ (d : Int) ∈ F.st) :
 Calls Tryz.prog 13 #[.agg #[.slice An nn cn, .slice Ad nd cd], .agg #[.slice As n c, .slice Al nl cl, .slice At nt ct], .agg #[.int .i64 1, .int .i64 (d : Int), .int .i64 p, .int .i64 0]] w fun e w' => ∃ (A' : Option Addr) (c' : Nat), e = .returned (.tuple #[.agg #[.slice A' n c', .slice Al nl cl, .slice At nt ct], .int .i64 0]) ∧ Hid (IntsO w' w.heap.size A' n c' (F.s.set d p)) ∧ Hid (Below w.heap.size w w') := by
 obtain ⟨-, hl2, hl3, hl4, hl5⟩ := h.ln
 have HL2 := Lib.hid hl2; have HL3 := Lib.hid hl3; have HL5 := Lib.hid hl5
 subst hl4
 have hdm := h.hd.le
 have HB := Lib.hid (St4.new w #[.slice An nn cn, .slice Ad nd cd] #[.slice As n c, .slice Al F.ls.length cl, .slice At nt ct] #[.int .i64 1, .int .i64 (d : Int), .int .i64 p, .int .i64 0] #[.slice none 0 0, .slice none 0 0, .slice none 0 0])
 have HH := Lib.hid h
 have HE := Lib.hid he; have HPP := Lib.hid hpp
 clear h hl2 hl3 hl5 he hpp
 go_enter Tryz.func13, Tryz.ntmps13
 go_upto_region 1 with (fail)
 rw [show w.heap.size + 1 + 1 + 1 = w.heap.size + 3 from rfl, show w.heap.size + 1 + 1 = w.heap.size + 2 from rfl]
 generalize World.alloc (World.alloc (World.alloc (World.alloc w _) _) _) _ = w1 at *
 have HM1 := Lib.hid (HH.out.later HB.out.bl)
 obtain ⟨k0, k1⟩ := HB.out.nc
 obtain ⟨f0, f1, f2⟩ := HB.out.fc
 go_wp2_with fail
 clear k0 k1 f0 f1 f2
 refine (rfcheck_any An Ad As Al At nn cn nd cd n c F.ls.length cl nt ct ns ds F w1 HM1.out).mono ?_
 rintro e w2 ⟨rfl, hb2⟩
 rw [HE.out]
 have HS2 := Lib.hid (HB.out.later hb2)
 clear hb2 HB HM1
 obtain ⟨e0, e1, e2, e3⟩ := HS2.out.ec
 obtain ⟨k0, k1⟩ := HS2.out.nc
 have q0 : decide ((d : Int) < 0) = false := by simp
 have q1 : decide ((nd : Int) ≤ (d : Int)) = false := by simp; omega
 have hdn : d < ds.length := by rw [HL2.out]; omega
 have q1n : decide (nd ≤ d) = false := by simp; omega
 obtain ⟨hzE, hzL, -, hzS⟩ := fdErr_zero HE.out
 obtain ⟨hs1, hs2, hs3, hs4⟩ := fd_small HE.out
 have hdS : Hid (d < n) := by have := (stateErr_len hzE).2.1; have := HL3.out; unfold Hid; omega
 obtain ⟨bd, off, x, hAd, hbd, hx, hc⟩ := HH.out.hd.at (k := d) (fun _ => rfl) (by decide) hnd
 subst hAd
 obtain ⟨nm, kd, xa, xb, xc⟩ := x
 have HKD : Hid (kindOf ds (d : Int) = kd) := kindOf_at hx
 have HKC : Hid (∀ W, Below w.heap.size w W → W.cell? ⟨bd, off + d * 5 + 1, none⟩ = some (.int .i64 kd)) := fun W hb => (hb.cell (p := ⟨bd, off + d * 5 + 1, none⟩) hbd).trans (hc 1 _ rfl)
 clear hzE hzL hzS hc hx
 go_upto_region 6 with (fail)
 have h5 : kd ≠ 5 := by rw [← HKD.out]; exact hk
 have qk : (kd == 5) = false := by simpa using h5
 have HLK := Lib.hid hlk; have HSK : Hid (decide ((d : Int) ∈ F.st) = false) := by simpa [Hid] using hsk
 clear hk hlk hsk h5
 have c1 := HKC.out w2 HS2.out.bl
 obtain ⟨f0, f1, f2⟩ := HS2.out.fc
 go_wp2_with fail
 clear c1 f0 f1 f2 e0 e1 e2 e3 k0 k1
 refine (rlocked_any Al F.ls.length cl w.heap.size F.ls d w2 (HH.out.hl.below HS2.out.bl (Nat.le_refl _)) HS2.out.bl.size).mono ?_
 rintro e w3 ⟨rfl, hb3⟩
 have HS3 := Lib.hid (HS2.out.later hb3)
 clear hb3 HS2
 unfold lckE
 rw [HLK.out]
 obtain ⟨f0, f1, f2⟩ := HS3.out.fc
 obtain ⟨e0, e1, e2, e3⟩ := HS3.out.ec
 obtain ⟨k0, k1⟩ := HS3.out.nc
 go_wp2_with fail
 refine (rhas_any At nt ct F.st d w3 ((HH.out.ht.below HS3.out.bl (Nat.le_refl _)).more HS3.out.bl.size)).mono ?_
 rintro e w4 ⟨rfl, rfl⟩
 rw [HSK.out]
 have HFS := Lib.hid ((HH.out.hs.below HS3.out.bl (Nat.le_refl _)).more HS3.out.bl.size)
 go_wp2_with fail
 refine (rfpos_any p w3).mono ?_
 rintro e w5 ⟨rfl, rfl⟩
 rw [HPP.out]
 go_wp2_with fail
 clear f0 f1 f2 e0 e1 e2 e3
 refine (turn_any As Al At n c F.ls.length cl nt ct F.s p d w3 HFS.out (by have := HL3.out; omega) hdS.out).mono ?_
 rintro e wt ⟨A', c', rfl, hO, hbt⟩
 have HST := Lib.hid (HS3.out.later hbt.out)
 have HOT := Lib.hid (hO.out.mono HS3.out.b3.lt)
 clear hO hbt
 obtain ⟨d0, d1, d2⟩ := HST.out.oc
 obtain ⟨y0, y1, y2⟩ := HST.out.oz
 have HSY := Lib.hid (HST.out.out (.slice A' n c') (.slice Al F.ls.length cl) (.slice At nt ct))
 have HFZ : Hid (IntsO (((wt.setCell ⟨w.heap.size + 3, 0, none⟩ (.slice A' n c')).setCell ⟨w.heap.size + 3, 1, none⟩ (.slice Al F.ls.length cl)).setCell ⟨w.heap.size + 3, 2, none⟩ (.slice At nt ct)) w.heap.size A' n c' (F.s.set d p)) := (own_out3 (x := w.heap.size + 3) HOT.out (Nat.lt_succ_self _)).mono (by omega)
 go_wp2_with fail
 clear d0 d1 d2 y0 y1 y2
 generalize World.setCell (World.setCell (World.setCell wt _ _) _ _) _ _ = wz at *
 obtain ⟨t0, t1, t2⟩ := HSY.out.oc
 exact bodyPost_ret (v := .tuple #[.agg #[.slice A' n c', .slice Al F.ls.length cl, .slice At nt ct], .int .i64 0]) (by simp [results, Tryz.results13, go_sem, t0, t1, t2]) rfl ⟨A', c', rfl, HFZ, HSY.out.bl⟩
theorem rlock_ok (An Ad As Al At : Option Addr) (nn cn nd cd n c nl cl nt ct : Nat) (ns : List Nd) (ds : List Dv) (F : Fd) (p q : Int) (d : Nat) (w : World) (h : FdM w An Ad As Al At nn cn nd cd n c nl cl nt ct ns ds F) (he : fdErr ns ds F = 0) (hnd : d < nd) (hpp : posB p = true) (hv : F.s.getD d 0 = p) (ha : addErr ns ds F.ls ⟨(d : Int), p, q⟩ = 0) :
 Calls Tryz.prog 13 #[.agg #[.slice An nn cn, .slice Ad nd cd], .agg #[.slice As n c, .slice Al nl cl, .slice At nt ct], .agg #[.int .i64 6, .int .i64 (d : Int), .int .i64 p, .int .i64 q]] w fun e w' => ∃ (A' : Option Addr) (c' : Nat), e = .returned (.tuple #[.agg #[.slice As n c, .slice A' (nl + 1) c', .slice At nt ct], .int .i64 0]) ∧ Hid (LocksO w' w.heap.size A' (nl + 1) c' (insL ⟨(d : Int), p, q⟩ F.ls)) ∧ Hid (Below w.heap.size w w') := by
 obtain ⟨-, hl2, hl3, hl4, hl5⟩ := h.ln
 have HL2 := Lib.hid hl2; have HL3 := Lib.hid hl3; have HL5 := Lib.hid hl5
 subst hl4
 have hdm := h.hd.le
 have HB := Lib.hid (St4.new w #[.slice An nn cn, .slice Ad nd cd] #[.slice As n c, .slice Al F.ls.length cl, .slice At nt ct] #[.int .i64 6, .int .i64 (d : Int), .int .i64 p, .int .i64 q] #[.slice none 0 0, .slice none 0 0, .slice none 0 0])
 have HH := Lib.hid h
 have HE := Lib.hid he; have HPP := Lib.hid hpp
 clear h hl2 hl3 hl5 he hpp
 go_enter Tryz.func13, Tryz.ntmps13
 go_upto_region 1 with (fail)
 rw [show w.heap.size + 1 + 1 + 1 = w.heap.size + 3 from rfl, show w.heap.size + 1 + 1 = w.heap.size + 2 from rfl]
 generalize World.alloc (World.alloc (World.alloc (World.alloc w _) _) _) _ = w1 at *
 have HM1 := Lib.hid (HH.out.later HB.out.bl)
 obtain ⟨k0, k1⟩ := HB.out.nc
 obtain ⟨f0, f1, f2⟩ := HB.out.fc
 go_wp2_with fail
 clear k0 k1 f0 f1 f2
 refine (rfcheck_any An Ad As Al At nn cn nd cd n c F.ls.length cl nt ct ns ds F w1 HM1.out).mono ?_
 rintro e w2 ⟨rfl, hb2⟩
 rw [HE.out]
 have HS2 := Lib.hid (HB.out.later hb2)
 clear hb2 HB HM1
 obtain ⟨e0, e1, e2, e3⟩ := HS2.out.ec
 obtain ⟨k0, k1⟩ := HS2.out.nc
 have q0 : decide ((d : Int) < 0) = false := by simp
 have q1 : decide ((nd : Int) ≤ (d : Int)) = false := by simp; omega
 have hdn : d < ds.length := by rw [HL2.out]; omega
 have q1n : decide (nd ≤ d) = false := by simp; omega
 obtain ⟨hzE, hzL, -, hzS⟩ := fdErr_zero HE.out
 obtain ⟨hs1, hs2, hs3, hs4⟩ := fd_small HE.out
 have hdS : Hid (d < n) := by have := (stateErr_len hzE).2.1; have := HL3.out; unfold Hid; omega
 obtain ⟨bd, off, x, hAd, hbd, hx, hc⟩ := HH.out.hd.at (k := d) (fun _ => rfl) (by decide) hnd
 subst hAd
 obtain ⟨nm, kd, xa, xb, xc⟩ := x
 have HKD : Hid (kindOf ds (d : Int) = kd) := kindOf_at hx
 have HKC : Hid (∀ W, Below w.heap.size w W → W.cell? ⟨bd, off + d * 5 + 1, none⟩ = some (.int .i64 kd)) := fun W hb => (hb.cell (p := ⟨bd, off + d * 5 + 1, none⟩) hbd).trans (hc 1 _ rfl)
 clear hzE hzL hzS hc hx
 go_upto_region 6 with (fail)
 have HHA := Lib.hid ha; have HV := Lib.hid hv
 clear ha hv
 have c1 := HKC.out w2 HS2.out.bl
 obtain ⟨f0, f1, f2⟩ := HS2.out.fc
 go_wp2_with fail
 clear c1 f0 f1 f2 e0 e1 e2 e3 k0 k1
 refine (rlocked_any Al F.ls.length cl w.heap.size F.ls d w2 (HH.out.hl.below HS2.out.bl (Nat.le_refl _)) HS2.out.bl.size).mono ?_
 rintro e w3 ⟨rfl, hb3⟩
 have HS3 := Lib.hid (HS2.out.later hb3)
 clear hb3 HS2
 unfold lckE
 obtain ⟨lq, hlq⟩ : ∃ x, x = (lckL F.ls (d : Int)).isSome := ⟨_, rfl⟩
 rw [← hlq]
 clear hlq
 obtain ⟨f0, f1, f2⟩ := HS3.out.fc
 obtain ⟨e0, e1, e2, e3⟩ := HS3.out.ec
 obtain ⟨k0, k1⟩ := HS3.out.nc
 go_wp2_with fail
 refine (rhas_any At nt ct F.st d w3 ((HH.out.ht.below HS3.out.bl (Nat.le_refl _)).more HS3.out.bl.size)).mono ?_
 rintro e w4 ⟨rfl, rfl⟩
 obtain ⟨sq, hsq⟩ : ∃ x, x = decide ((d : Int) ∈ F.st) := ⟨_, rfl⟩
 rw [← hsq]
 clear hsq
 obtain ⟨bs, os, sv, hAs, hbs, hsv, hcs⟩ := (HH.out.hs.below HS3.out.bl (Nat.le_refl _)).at1 hdS.out
 subst hAs
 have hvv : sv = p := by rw [← getDf hsv]; exact HV.out
 have qv : (sv != p) = false := by simpa using hvv
 have HP : Hid (∀ W : World, Calls Tryz.prog 38 #[.int .i64 p] W fun e w' => e = .returned (.bool true) ∧ W = w') := fun W => by have := rfpos_any p W; rwa [HPP.out] at this
 clear hsv hvv
 have hnm := HH.out.hs.le
 have hdn2 := hdS.out
 go_wp2_with fail
 go_quiet ((go_at_call 38; exact quiet_eq (HP.out _)))
 have HS4 := Lib.hid (HS3.out.later (below_drewN (Below.refl _ _) nq))
 clear hcs f0 f1 f2 e0 e1 e2 e3 k0 k1 HS3
 generalize World.drewN w3 nq = w4 at *
 obtain ⟨f0, f1, f2⟩ := HS4.out.fc
 obtain ⟨e0, e1, e2, e3⟩ := HS4.out.ec
 obtain ⟨k0, k1⟩ := HS4.out.nc
 go_wp2_with fail
 clear f0 f1 f2 e0 e1 e2 e3 k0 k1
 refine (radd_any An (some ⟨bd, off, none⟩) Al nn cn nd cd cl w.heap.size w.heap.size w.heap.size ns ds F.ls d p q w4 (HH.out.hn.below HS4.out.bl (Nat.le_refl _)) (HH.out.hd.below HS4.out.bl (Nat.le_refl _)) (HH.out.hl.below HS4.out.bl (Nat.le_refl _)) HS4.out.bl.size HS4.out.bl.size HS4.out.bl.size HH.out.sn HH.out.sd).mono ?_
 rintro e wa ⟨⟨h1, rfl⟩ | ⟨-, A', c', rfl, hO⟩, hba⟩
 ·exact absurd HHA.out h1
 have HSA := Lib.hid (HS4.out.later hba.out)
 have HOA : Hid (wa.ownsRow (w.heap.size + 4) 46 3 (.slice A' (F.ls.length + 1) c') (F.ls.length + 1) ((insL ⟨(d : Int), p, q⟩ F.ls).flatMap Lk.cells)) := World.ownsRow.mono hO.out HS4.out.b3.lt
 clear hO hba
 have y1 := HSA.out.b1.frozen 1
 obtain ⟨f0, f1, f2⟩ := HSA.out.fc
 have HST : Hid (St4 w #[.slice An nn cn, .slice (some ⟨bd, off, none⟩) nd cd] #[.slice (some ⟨bs, os, none⟩) n c, .slice A' (F.ls.length + 1) c', .slice At nt ct] #[.int .i64 6, .int .i64 (d : Int), .int .i64 p, .int .i64 q] #[.slice none 0 0, .slice none 0 0, .slice none 0 0] (wa.setCell ⟨w.heap.size + 1, 1, none⟩ (.slice A' (F.ls.length + 1) c'))) := HSA.out.fld 1 _
 have HOT := Lib.hid (own_far (x := w.heap.size + 1) (i := 1) (u := .slice A' (F.ls.length + 1) c') HOA.out (by omega))
 go_upto_region 53 with (fail)
 clear f0 f1 f2 y1
 generalize World.setCell wa _ _ = wt at *
 obtain ⟨f0, f1, f2⟩ := HST.out.fc
 obtain ⟨d0, d1, d2⟩ := HST.out.oc
 obtain ⟨y0, y1, y2⟩ := HST.out.oz
 have HSY := Lib.hid (HST.out.out (.slice (some ⟨bs, os, none⟩) n c) (.slice A' (F.ls.length + 1) c') (.slice At nt ct))
 have HFZ : Hid (LocksO (((wt.setCell ⟨w.heap.size + 3, 0, none⟩ (.slice (some ⟨bs, os, none⟩) n c)).setCell ⟨w.heap.size + 3, 1, none⟩ (.slice A' (F.ls.length + 1) c')).setCell ⟨w.heap.size + 3, 2, none⟩ (.slice At nt ct)) w.heap.size A' (F.ls.length + 1) c' (insL ⟨(d : Int), p, q⟩ F.ls)) := (own_out3 (x := w.heap.size + 3) HOT.out (Nat.lt_succ_self _)).mono (by omega)
 go_wp2_with fail
 clear d0 d1 d2 y0 y1 y2
 generalize World.setCell (World.setCell (World.setCell wt _ _) _ _) _ _ = wz at *
 obtain ⟨t0, t1, t2⟩ := HSY.out.oc
 exact bodyPost_ret (v := .tuple #[.agg #[.slice (some ⟨bs, os, none⟩) n c, .slice A' (F.ls.length + 1) c', .slice At nt ct], .int .i64 0]) (by simp [results, Tryz.results13, go_sem, t0, t1, t2]) rfl ⟨A', c', rfl, HFZ, HSY.out.bl⟩
end Go.Proofs.YtepicjpdhpojnaaGreatDoor
namespace Go.Proofs.YtepicjpdhpojnaaGreatDoor
open Go.RowKit
section
variable {P : Program} {ops : Array Oper} {A : Act} {L : List (Nat × Value)} {n : Nat} {oi : Oper}
theorem wanted_und {j dj : Nat} {oj : Oper} {b : Bool} (hg : oi.guard = some (j, b)) (hn : A.tmps.size = n) (hj : ops[j]? = some oj) (hd : oj.dst = some dj) (hdn : Nat.blt dj n = true) (hv : lkp L dj (A.eval (.tmp dj)) = undef) : Region.wanted oi (yielded ops (puts A L).tmps) = false := by
 have hlt : dj < A.tmps.size := by rw [hn]; simpa [Nat.blt_eq] using hdn
 have he := eval_puts A dj hlt L
 rw [hv] at he
 have hlt' : dj < (puts A L).tmps.size := by rw [puts_size]; exact hlt
 have hy : yielded ops (puts A L).tmps j = none := by
  unfold yielded
  rw [hj]
  simp only [Option.bind_some, hd]
  simp only [Act.eval, Array.getD_eq_getD_getElem?, Array.getElem?_eq_getElem hlt', Option.getD_some] at he
  rw [Array.getElem?_eq_getElem hlt', he]
  rfl
 unfold Region.wanted; rw [hg]; simp only [hy]; rfl
end
end Go.Proofs.YtepicjpdhpojnaaGreatDoor
namespace Go.Proofs.YtepicjpdhpojnaaGreatDoor
open Go.RowKit
def risL (u : Int) : Int → List Int → Bool
 | _, [] => true
 | p, x :: t => decide (p < x) && decide (x < u) && risL u x t
def lastD : Int → List Int → Int
 | p, [] => p
 | _, x :: t => lastD x t
theorem risL_snoc (u x : Int) : ∀ (p : Int) (l : List Int), risL u p (l ++ [x]) = (risL u p l && decide (lastD p l < x) && decide (x < u))
 | p, [] => by
  show (decide (p < x) && decide (x < u) && true) = (true && decide (p < x) && decide (x < u))
  rw [Bool.and_true, Bool.true_and]
 | p, y :: t => by rw [List.cons_append, risL, risL_snoc u x y t, risL, lastD]; simp only [Bool.and_assoc]
theorem risL_take {u : Int} : ∀ {p : Int} {l : List Int} (i : Nat), risL u p l = true → risL u p (l.take i) = true
 | _, [], i, _ => by simp [risL]
 | _, x :: t, 0, _ => by simp [risL]
 | p, x :: t, i + 1, h => by
  rw [risL, Bool.and_eq_true] at h
  rw [List.take_succ_cons, risL, h.1, risL_take i h.2]; rfl
theorem lastD_snoc (x : Int) : ∀ (p : Int) (l : List Int), lastD p (l ++ [x]) = x
 | _, [] => rfl
 | _, y :: t => lastD_snoc x y t
theorem lastD_take {l : List Int} {i : Nat} {x p : Int} (h : l[i]? = some x) : lastD p (l.take (i + 1)) = x := by rw [take_snoc h, lastD_snoc]
theorem ris_stop {u x : Int} {l : List Int} {i : Nat} (hx : l[i]? = some x) (h : lastD (-1) (l.take i) < x → x < u → False) : risL u (-1) l = false := by
 rw [Bool.eq_false_iff]
 intro e
 have := risL_take (i + 1) e
 rw [take_snoc hx, risL_snoc, Bool.and_eq_true, Bool.and_eq_true] at this
 exact h (by simpa using this.1.2) (by simpa using this.2)
theorem ris_step {u x : Int} {l : List Int} {i : Nat} (hx : l[i]? = some x) (hp : risL u (-1) (l.take i) = true) (h1 : lastD (-1) (l.take i) < x) (h2 : x < u) : risL u (-1) (l.take (i + 1)) = true := by
 rw [take_snoc hx, risL_snoc, hp, decide_eq_true h1, decide_eq_true h2]; rfl
theorem ris_ge {u : Int} : ∀ {p : Int} {l : List Int}, risL u p l = true → p ≤ lastD p l
 | p, [], _ => Int.le_refl _
 | p, x :: t, h => by
  rw [risL, Bool.and_eq_true, Bool.and_eq_true] at h
  have := ris_ge h.2
  have h1 : p < x := by simpa using h.1.1
  rw [lastD]; omega
def RsgR (w : World) (l : List Int) (u : Int) (n gk : Nat) (lv iv : Value) (wr : World) : Prop := ∃ i : Nat, lv = .int .i64 (lastD (-1) (l.take i)) ∧ iv = .int .i64 i ∧ i ≤ n ∧ gk = n - i ∧ wr = w ∧ Hid (risL u (-1) (l.take i) = true)
theorem rising_any (A : Option Addr) (n c B : Nat) (l : List Int) (u : Int) (w : World) (hs : Sl w B 1 A n c (intsV l)) :
 Calls Tryz.prog 87 #[.slice A n c, .int .i64 u] w fun e w' => e = .returned (.bool (risL u (-1) l)) ∧ w = w' := by
 have hle := hs.le
 have HL := Lib.hid (hs.len (fun _ => rfl) (by decide))
 have HS := Lib.hid hs
 clear hs
 go_enter Tryz.func87, Tryz.ntmps87
 go_wp2_with fail
 go_loopg [5, 11] n (RsgR w l u n)
 case atStart => exact ⟨0, rfl, rfl, Nat.zero_le _, rfl, rfl, rfl⟩
 case round =>
  obtain ⟨i, rfl, rfl, hi, rfl, rfl, hR⟩ := hrel
  by_cases hlt : i < n
  ·obtain ⟨b, off, x, rfl, hb, hx, hc⟩ := HS.out.at1 hlt
   have HX := Lib.hid hx
   have HT : Hid (lastD (-1) (l.take (i + 1)) = x) := lastD_take hx
   obtain ⟨la, hla⟩ : ∃ la, la = lastD (-1) (l.take i) := ⟨_, rfl⟩
   rw [← hla]
   have HLA := Lib.hid hla
   clear hx hla
   by_cases h1 : x ≤ la
   ·have q1 : decide (x ≤ la) = true := by simpa using h1
    have HF : Hid (risL u (-1) l = false) := ris_stop HX.out fun h _ => by rw [← HLA.out] at h; omega
    clear h1
    go_wp2_with fail
    go_ret
    exact ⟨ret_bool HF.out.symm, rfl⟩
   have q1 : decide (x ≤ la) = false := by simpa using h1
   by_cases h2 : u ≤ x
   ·have q2 : decide (u ≤ x) = true := by simpa using h2
    have HF : Hid (risL u (-1) l = false) := ris_stop HX.out fun _ h => by omega
    clear h1 h2
    go_wp2_with fail
    go_ret
    exact ⟨ret_bool HF.out.symm, rfl⟩
   have q2 : decide (u ≤ x) = false := by simpa using h2
   have HN : Hid (risL u (-1) (l.take (i + 1)) = true) := ris_step HX.out hR.out (by rw [← HLA.out]; omega) (by omega)
   clear h1 h2
   go_wp2_with fail
   go_roundg (n - (i + 1))
   case rel => exact ⟨i + 1, by rw [HT.out], by go_num, by omega, rfl, rfl, HN⟩
   case measure => omega
  ·obtain rfl : i = n := by omega
   have hii : decide (i < i) = false := by simp
   have HF : Hid (risL u (-1) l = true) := by have := hR.out; rw [List.take_of_length_le (by rw [HL.out]; exact Nat.le_refl _)] at this; exact this
   go_wp2_with fail
   go_ret
   exact ⟨ret_bool HF.out.symm, rfl⟩
def RstR (w : World) (l : List Int) (u : Int) (n gk : Nat) (iv : Value) (wr : World) : Prop := ∃ (i q : Nat), iv = .int .i64 i ∧ i ≤ n ∧ gk = n - i ∧ wr = w.drewN q ∧ Hid (risL u (-1) (l.take i) = true)
theorem rset_any (A : Option Addr) (n c B : Nat) (l : List Int) (u : Int) (w : World) (hs : Sl w B 1 A n c (intsV l)) :
 Calls Tryz.prog 101 #[.slice A n c, .int .i64 u] w fun e w' => e = .returned (.bool (risL u (-1) l)) ∧ ∃ q, w' = w.drewN q := by
 have hle := hs.le
 have HL := Lib.hid (hs.len (fun _ => rfl) (by decide))
 have HS := Lib.hid hs
 clear hs
 go_enter Tryz.func101, Tryz.ntmps101
 go_wp2_with fail
 go_loopg [5] n (RstR w l u n)
 case atStart => exact ⟨0, 0, rfl, Nat.zero_le _, rfl, rfl, rfl⟩
 case round =>
  obtain ⟨i, nq, rfl, hi, rfl, rfl, hR⟩ := hrel
  by_cases hlt : i < n
  ·obtain ⟨b, off, x, rfl, hb, hx, hc⟩ := HS.out.at1 hlt
   have HX := Lib.hid hx
   have HT : Hid (lastD (-1) (l.take (i + 1)) = x) := lastD_take hx
   have HC : Hid ((w.drewN nq).cell? ⟨b, off + i, none⟩ = some (.int .i64 x)) := hc
   have hnn : n ≤ 9223372036854775807 := by omega
   clear hx hc
   go_upto_region 4 with (fail)
   by_cases h0 : x < 0
   ·have q0 : decide (x < 0) = true := by simpa using h0
    have HF : Hid (risL u (-1) l = false) := ris_stop HX.out fun h _ => by have := ris_ge hR.out; omega
    clear h0
    refine wp_region_ord (S := fun W' => W'.cell? ⟨b, off + i, none⟩ = some (.int .i64 x)) (J := []) (n := _) ((0, true) :: (1, true) :: (2, true) :: (3, true) :: (4, true) :: (5, true) :: (6, true) :: (7, true) :: (8, true) :: (9, true) :: (10, true) :: (11, true) :: (12, true) :: (13, true) :: (14, true) :: (15, true) :: (16, true) :: (17, true) :: (18, true) :: (19, true) :: (20, true) :: (21, true) :: (22, true) :: (23, true) :: (24, true) :: (25, true) :: (26, true) :: (27, true) :: (28, true) :: []) (by as_aux_lemma => kernel_rfl) (by rfl) (base_cons (k := 0) (by go_simp; rfl) (base_cons (k := 5) (by go_simp; rfl) base_nil)) ?_ (fun _ _ _ _ _ h => h) (fun Q2 A hsz hbase hn2 hHeld => ?_)
    ·exact HC.out
    try dsimp only at hHeld
    obtain ⟨b0, b5, -⟩ := hbase
    refine ord_move (i := 0) (d := 12) (v := ?_) rfl rfl rfl (wanted_none rfl) hHeld (fun ρ hρ => ?_) ?_
    rotate_left
    ·(have e0 := Eq.trans (hρ.tmp hsz 0 rfl) (lkp_base b0); exact e0)
    show wpOrd _ _ _ _ _ _ _ _
    refine ord_move (i := 1) (d := 13) (v := ?_) rfl rfl rfl (wanted_none rfl) hHeld (fun ρ hρ => ?_) ?_
    rotate_left
    ·(have e5 := Eq.trans (hρ.tmp hsz 5 rfl) (miss1 rfl (lkp_base b5)); exact e5)
    show wpOrd _ _ _ _ _ _ _ _
    refine ord_take (i := 2) (d := 14) (v := ?_) rfl rfl (wanted_none rfl) hHeld (fun ρ hρ w hSw => ?_) ?_
    rotate_left
    ·(have e12 := Eq.trans (hρ.tmp hsz 12 rfl) (miss1 rfl lkp_hit); have e13 := Eq.trans (hρ.tmp hsz 13 rfl) lkp_hit; clear hρ; (try dsimp only at hSw); go_simp; try with_reducible rfl)
    show wpOrd _ _ _ _ _ _ _ _
    refine ord_take (i := 3) (d := 15) (v := ?_) rfl rfl (wanted_none rfl) hHeld (fun ρ hρ w hSw => ?_) ?_
    rotate_left
    ·(have e14 := Eq.trans (hρ.tmp hsz 14 rfl) lkp_hit; clear hρ; (try dsimp only at hSw); have hx := hSw; clear hSw; go_simp; try with_reducible rfl)
    show wpOrd _ _ _ _ _ _ _ _
    refine ord_take (i := 4) (d := 16) (v := ?_) rfl rfl (wanted_none rfl) hHeld (fun ρ hρ w hSw => ?_) ?_
    rotate_left
    ·(have hc := hρ.const; have e15 := Eq.trans (hρ.tmp hsz 15 rfl) lkp_hit; clear hρ; (try dsimp only at hSw); go_simp; try with_reducible rfl)
    show wpOrd _ _ _ _ _ _ _ _
    refine ord_move (i := 5) (d := 17) (v := ?_) rfl rfl rfl (wanted_none rfl) hHeld (fun ρ hρ => ?_) ?_
    rotate_left
    ·(have e16 := Eq.trans (hρ.tmp hsz 16 rfl) lkp_hit; exact e16)
    show wpOrd _ _ _ _ _ _ _ _
    refine ord_skip (i := 6) (d := 18) rfl rfl (wanted_no (j := 5) (dj := 17) (b := false) (b' := true) rfl hsz rfl rfl rfl lkp_hit rfl) hHeld ?_
    show wpOrd _ _ _ _ _ _ _ _
    refine ord_skip (i := 7) (d := 19) rfl rfl (wanted_no (j := 5) (dj := 17) (b := false) (b' := true) rfl hsz rfl rfl rfl (miss1 rfl lkp_hit) rfl) hHeld ?_
    show wpOrd _ _ _ _ _ _ _ _
    refine ord_skip (i := 8) (d := 20) rfl rfl (wanted_no (j := 5) (dj := 17) (b := false) (b' := true) rfl hsz rfl rfl rfl (miss1 rfl (miss1 rfl lkp_hit)) rfl) hHeld ?_
    show wpOrd _ _ _ _ _ _ _ _
    refine ord_skip (i := 9) (d := 21) rfl rfl (wanted_no (j := 5) (dj := 17) (b := false) (b' := true) rfl hsz rfl rfl rfl (miss1 rfl (miss1 rfl (miss1 rfl lkp_hit))) rfl) hHeld ?_
    show wpOrd _ _ _ _ _ _ _ _
    refine ord_skip (i := 10) (d := 22) rfl rfl (wanted_no (j := 5) (dj := 17) (b := false) (b' := true) rfl hsz rfl rfl rfl (miss4 rfl rfl rfl rfl lkp_hit) rfl) hHeld ?_
    show wpOrd _ _ _ _ _ _ _ _
    refine ord_skip (i := 11) (d := 23) rfl rfl (wanted_no (j := 5) (dj := 17) (b := false) (b' := true) rfl hsz rfl rfl rfl (miss4 rfl rfl rfl rfl (miss1 rfl lkp_hit)) rfl) hHeld ?_
    show wpOrd _ _ _ _ _ _ _ _
    refine ord_take (i := 12) (d := 24) (v := ?_) rfl rfl (wanted_none rfl) hHeld (fun ρ hρ w hSw => ?_) ?_
    rotate_left
    ·(have hc := hρ.const; have e17 := Eq.trans (hρ.tmp hsz 17 rfl) (miss4 rfl rfl rfl rfl (miss1 rfl (miss1 rfl lkp_hit))); have e23 := Eq.trans (hρ.tmp hsz 23 rfl) lkp_hit; clear hρ; (try dsimp only at hSw); go_simp; try with_reducible rfl)
    show wpOrd _ _ _ _ _ _ _ _
    refine ord_move (i := 13) (d := 25) (v := ?_) rfl rfl rfl (wanted_none rfl) hHeld (fun ρ hρ => ?_) ?_
    rotate_left
    ·(have e24 := Eq.trans (hρ.tmp hsz 24 rfl) lkp_hit; exact e24)
    show wpOrd _ _ _ _ _ _ _ _
    refine ord_skip (i := 14) (d := 26) rfl rfl (wanted_no (j := 13) (dj := 25) (b := false) (b' := true) rfl hsz rfl rfl rfl lkp_hit rfl) hHeld ?_
    show wpOrd _ _ _ _ _ _ _ _
    refine ord_skip (i := 15) (d := 27) rfl rfl (wanted_no (j := 13) (dj := 25) (b := false) (b' := true) rfl hsz rfl rfl rfl (miss1 rfl lkp_hit) rfl) hHeld ?_
    show wpOrd _ _ _ _ _ _ _ _
    refine ord_skip (i := 16) (d := 28) rfl rfl (wanted_no (j := 13) (dj := 25) (b := false) (b' := true) rfl hsz rfl rfl rfl (miss1 rfl (miss1 rfl lkp_hit)) rfl) hHeld ?_
    show wpOrd _ _ _ _ _ _ _ _
    refine ord_skip (i := 17) (d := 29) rfl rfl (wanted_und (j := 16) (dj := 28) (b := true) rfl hsz rfl rfl rfl lkp_hit) hHeld ?_
    show wpOrd _ _ _ _ _ _ _ _
    refine ord_skip (i := 18) (d := 30) rfl rfl (wanted_und (j := 16) (dj := 28) (b := true) rfl hsz rfl rfl rfl (miss1 rfl lkp_hit)) hHeld ?_
    show wpOrd _ _ _ _ _ _ _ _
    refine ord_skip (i := 19) (d := 31) rfl rfl (wanted_und (j := 16) (dj := 28) (b := true) rfl hsz rfl rfl rfl (miss1 rfl (miss1 rfl lkp_hit))) hHeld ?_
    show wpOrd _ _ _ _ _ _ _ _
    refine ord_skip (i := 20) (d := 32) rfl rfl (wanted_und (j := 16) (dj := 28) (b := true) rfl hsz rfl rfl rfl (miss1 rfl (miss1 rfl (miss1 rfl lkp_hit)))) hHeld ?_
    show wpOrd _ _ _ _ _ _ _ _
    refine ord_skip (i := 21) (d := 33) rfl rfl (wanted_und (j := 16) (dj := 28) (b := true) rfl hsz rfl rfl rfl (miss4 rfl rfl rfl rfl lkp_hit)) hHeld ?_
    show wpOrd _ _ _ _ _ _ _ _
    refine ord_skip (i := 22) (d := 34) rfl rfl (wanted_und (j := 16) (dj := 28) (b := true) rfl hsz rfl rfl rfl (miss4 rfl rfl rfl rfl (miss1 rfl lkp_hit))) hHeld ?_
    show wpOrd _ _ _ _ _ _ _ _
    refine ord_skip (i := 23) (d := 35) rfl rfl (wanted_und (j := 16) (dj := 28) (b := true) rfl hsz rfl rfl rfl (miss4 rfl rfl rfl rfl (miss1 rfl (miss1 rfl lkp_hit)))) hHeld ?_
    show wpOrd _ _ _ _ _ _ _ _
    refine ord_skip (i := 24) (d := 36) rfl rfl (wanted_und (j := 16) (dj := 28) (b := true) rfl hsz rfl rfl rfl (miss4 rfl rfl rfl rfl (miss1 rfl (miss1 rfl (miss1 rfl lkp_hit))))) hHeld ?_
    show wpOrd _ _ _ _ _ _ _ _
    refine ord_skip (i := 25) (d := 37) rfl rfl (wanted_und (j := 16) (dj := 28) (b := true) rfl hsz rfl rfl rfl (miss4 rfl rfl rfl rfl (miss4 rfl rfl rfl rfl lkp_hit))) hHeld ?_
    show wpOrd _ _ _ _ _ _ _ _
    refine ord_skip (i := 26) (d := 38) rfl rfl (wanted_und (j := 16) (dj := 28) (b := true) rfl hsz rfl rfl rfl (miss4 rfl rfl rfl rfl (miss4 rfl rfl rfl rfl (miss1 rfl lkp_hit)))) hHeld ?_
    show wpOrd _ _ _ _ _ _ _ _
    refine ord_skip (i := 27) (d := 39) rfl rfl (wanted_no (j := 13) (dj := 25) (b := false) (b' := true) rfl hsz rfl rfl rfl (miss4 rfl rfl rfl rfl (miss4 rfl rfl rfl rfl (miss4 rfl rfl rfl rfl (miss1 rfl lkp_hit)))) rfl) hHeld ?_
    show wpOrd _ _ _ _ _ _ _ _
    refine ord_take (i := 28) (d := 40) (v := ?_) rfl rfl (wanted_none rfl) hHeld (fun ρ hρ w hSw => ?_) ?_
    rotate_left
    ·(have hc := hρ.const; have e25 := Eq.trans (hρ.tmp hsz 25 rfl) (miss4 rfl rfl rfl rfl (miss4 rfl rfl rfl rfl (miss4 rfl rfl rfl rfl (miss1 rfl (miss1 rfl lkp_hit))))); have e39 := Eq.trans (hρ.tmp hsz 39 rfl) lkp_hit; clear hρ; (try dsimp only at hSw); go_simp; try with_reducible rfl)
    show wpOrd _ _ _ _ _ _ _ _
    refine ord_done hn2 ?_
    clear hHeld hn2 b0 b5 hsz A Q2
    simp only [puts_nil, puts_cons, put_lit, set_1, set_0]
    go_wp2_with fail
    go_ret
    exact ⟨ret_bool HF.out.symm, nq + 1, rfl⟩
   have q0 : decide (x < 0) = false := by simpa using h0
   by_cases h1 : u ≤ x
   ·have q1 : decide (u ≤ x) = true := by simpa using h1
    have HF : Hid (risL u (-1) l = false) := ris_stop HX.out fun _ h => by omega
    clear h0 h1
    refine wp_region_ord (S := fun W' => W'.cell? ⟨b, off + i, none⟩ = some (.int .i64 x)) (J := []) (n := _) ((0, true) :: (1, true) :: (2, true) :: (3, true) :: (4, true) :: (5, true) :: (6, true) :: (7, true) :: (8, true) :: (9, true) :: (10, true) :: (11, true) :: (12, true) :: (13, true) :: (14, true) :: (15, true) :: (16, true) :: (17, true) :: (18, true) :: (19, true) :: (20, true) :: (21, true) :: (22, true) :: (23, true) :: (24, true) :: (25, true) :: (26, true) :: (27, true) :: (28, true) :: []) (by as_aux_lemma => kernel_rfl) (by rfl) (base_cons (k := 0) (by go_simp; rfl) (base_cons (k := 5) (by go_simp; rfl) (base_cons (k := 1) (by go_simp; rfl) base_nil))) ?_ (fun _ _ _ _ _ h => h) (fun Q2 A hsz hbase hn2 hHeld => ?_)
    ·exact HC.out
    try dsimp only at hHeld
    obtain ⟨b0, b5, b1, -⟩ := hbase
    refine ord_move (i := 0) (d := 12) (v := ?_) rfl rfl rfl (wanted_none rfl) hHeld (fun ρ hρ => ?_) ?_
    rotate_left
    ·(have e0 := Eq.trans (hρ.tmp hsz 0 rfl) (lkp_base b0); exact e0)
    show wpOrd _ _ _ _ _ _ _ _
    refine ord_move (i := 1) (d := 13) (v := ?_) rfl rfl rfl (wanted_none rfl) hHeld (fun ρ hρ => ?_) ?_
    rotate_left
    ·(have e5 := Eq.trans (hρ.tmp hsz 5 rfl) (miss1 rfl (lkp_base b5)); exact e5)
    show wpOrd _ _ _ _ _ _ _ _
    refine ord_take (i := 2) (d := 14) (v := ?_) rfl rfl (wanted_none rfl) hHeld (fun ρ hρ w hSw => ?_) ?_
    rotate_left
    ·(have e12 := Eq.trans (hρ.tmp hsz 12 rfl) (miss1 rfl lkp_hit); have e13 := Eq.trans (hρ.tmp hsz 13 rfl) lkp_hit; clear hρ; (try dsimp only at hSw); go_simp; try with_reducible rfl)
    show wpOrd _ _ _ _ _ _ _ _
    refine ord_take (i := 3) (d := 15) (v := ?_) rfl rfl (wanted_none rfl) hHeld (fun ρ hρ w hSw => ?_) ?_
    rotate_left
    ·(have e14 := Eq.trans (hρ.tmp hsz 14 rfl) lkp_hit; clear hρ; (try dsimp only at hSw); have hx := hSw; clear hSw; go_simp; try with_reducible rfl)
    show wpOrd _ _ _ _ _ _ _ _
    refine ord_take (i := 4) (d := 16) (v := ?_) rfl rfl (wanted_none rfl) hHeld (fun ρ hρ w hSw => ?_) ?_
    rotate_left
    ·(have hc := hρ.const; have e15 := Eq.trans (hρ.tmp hsz 15 rfl) lkp_hit; clear hρ; (try dsimp only at hSw); go_simp; try with_reducible rfl)
    show wpOrd _ _ _ _ _ _ _ _
    refine ord_move (i := 5) (d := 17) (v := ?_) rfl rfl rfl (wanted_none rfl) hHeld (fun ρ hρ => ?_) ?_
    rotate_left
    ·(have e16 := Eq.trans (hρ.tmp hsz 16 rfl) lkp_hit; exact e16)
    show wpOrd _ _ _ _ _ _ _ _
    refine ord_move (i := 6) (d := 18) (v := ?_) rfl rfl rfl (wanted_yes (j := 5) (dj := 17) (b := false) rfl hsz rfl rfl rfl lkp_hit) hHeld (fun ρ hρ => ?_) ?_
    rotate_left
    ·(have e0 := Eq.trans (hρ.tmp hsz 0 rfl) (miss4 rfl rfl rfl rfl (miss1 rfl (miss1 rfl (lkp_base b0)))); exact e0)
    show wpOrd _ _ _ _ _ _ _ _
    refine ord_move (i := 7) (d := 19) (v := ?_) rfl rfl rfl (wanted_yes (j := 5) (dj := 17) (b := false) rfl hsz rfl rfl rfl (miss1 rfl lkp_hit)) hHeld (fun ρ hρ => ?_) ?_
    rotate_left
    ·(have e5 := Eq.trans (hρ.tmp hsz 5 rfl) (miss4 rfl rfl rfl rfl (miss1 rfl (miss1 rfl (miss1 rfl (lkp_base b5))))); exact e5)
    show wpOrd _ _ _ _ _ _ _ _
    refine ord_take (i := 8) (d := 20) (v := ?_) rfl rfl (wanted_yes (j := 5) (dj := 17) (b := false) rfl hsz rfl rfl rfl (miss1 rfl (miss1 rfl lkp_hit))) hHeld (fun ρ hρ w hSw => ?_) ?_
    rotate_left
    ·(have e18 := Eq.trans (hρ.tmp hsz 18 rfl) (miss1 rfl lkp_hit); have e19 := Eq.trans (hρ.tmp hsz 19 rfl) lkp_hit; clear hρ; (try dsimp only at hSw); go_simp; try with_reducible rfl)
    show wpOrd _ _ _ _ _ _ _ _
    refine ord_take (i := 9) (d := 21) (v := ?_) rfl rfl (wanted_yes (j := 5) (dj := 17) (b := false) rfl hsz rfl rfl rfl (miss1 rfl (miss1 rfl (miss1 rfl lkp_hit)))) hHeld (fun ρ hρ w hSw => ?_) ?_
    rotate_left
    ·(have e20 := Eq.trans (hρ.tmp hsz 20 rfl) lkp_hit; clear hρ; (try dsimp only at hSw); have hx := hSw; clear hSw; go_simp; try with_reducible rfl)
    show wpOrd _ _ _ _ _ _ _ _
    refine ord_move (i := 10) (d := 22) (v := ?_) rfl rfl rfl (wanted_yes (j := 5) (dj := 17) (b := false) rfl hsz rfl rfl rfl (miss4 rfl rfl rfl rfl lkp_hit)) hHeld (fun ρ hρ => ?_) ?_
    rotate_left
    ·(have e1 := Eq.trans (hρ.tmp hsz 1 rfl) (miss4 rfl rfl rfl rfl (miss4 rfl rfl rfl rfl (miss1 rfl (miss1 rfl (lkp_base b1))))); exact e1)
    show wpOrd _ _ _ _ _ _ _ _
    refine ord_take (i := 11) (d := 23) (v := ?_) rfl rfl (wanted_yes (j := 5) (dj := 17) (b := false) rfl hsz rfl rfl rfl (miss4 rfl rfl rfl rfl (miss1 rfl lkp_hit))) hHeld (fun ρ hρ w hSw => ?_) ?_
    rotate_left
    ·(have e21 := Eq.trans (hρ.tmp hsz 21 rfl) (miss1 rfl lkp_hit); have e22 := Eq.trans (hρ.tmp hsz 22 rfl) lkp_hit; clear hρ; (try dsimp only at hSw); go_simp; try with_reducible rfl)
    show wpOrd _ _ _ _ _ _ _ _
    refine ord_take (i := 12) (d := 24) (v := ?_) rfl rfl (wanted_none rfl) hHeld (fun ρ hρ w hSw => ?_) ?_
    rotate_left
    ·(have hc := hρ.const; have e17 := Eq.trans (hρ.tmp hsz 17 rfl) (miss4 rfl rfl rfl rfl (miss1 rfl (miss1 rfl lkp_hit))); have e23 := Eq.trans (hρ.tmp hsz 23 rfl) lkp_hit; clear hρ; (try dsimp only at hSw); go_simp; try with_reducible rfl)
    show wpOrd _ _ _ _ _ _ _ _
    refine ord_move (i := 13) (d := 25) (v := ?_) rfl rfl rfl (wanted_none rfl) hHeld (fun ρ hρ => ?_) ?_
    rotate_left
    ·(have e24 := Eq.trans (hρ.tmp hsz 24 rfl) lkp_hit; exact e24)
    show wpOrd _ _ _ _ _ _ _ _
    refine ord_skip (i := 14) (d := 26) rfl rfl (wanted_no (j := 13) (dj := 25) (b := false) (b' := true) rfl hsz rfl rfl rfl lkp_hit rfl) hHeld ?_
    show wpOrd _ _ _ _ _ _ _ _
    refine ord_skip (i := 15) (d := 27) rfl rfl (wanted_no (j := 13) (dj := 25) (b := false) (b' := true) rfl hsz rfl rfl rfl (miss1 rfl lkp_hit) rfl) hHeld ?_
    show wpOrd _ _ _ _ _ _ _ _
    refine ord_skip (i := 16) (d := 28) rfl rfl (wanted_no (j := 13) (dj := 25) (b := false) (b' := true) rfl hsz rfl rfl rfl (miss1 rfl (miss1 rfl lkp_hit)) rfl) hHeld ?_
    show wpOrd _ _ _ _ _ _ _ _
    refine ord_skip (i := 17) (d := 29) rfl rfl (wanted_und (j := 16) (dj := 28) (b := true) rfl hsz rfl rfl rfl lkp_hit) hHeld ?_
    show wpOrd _ _ _ _ _ _ _ _
    refine ord_skip (i := 18) (d := 30) rfl rfl (wanted_und (j := 16) (dj := 28) (b := true) rfl hsz rfl rfl rfl (miss1 rfl lkp_hit)) hHeld ?_
    show wpOrd _ _ _ _ _ _ _ _
    refine ord_skip (i := 19) (d := 31) rfl rfl (wanted_und (j := 16) (dj := 28) (b := true) rfl hsz rfl rfl rfl (miss1 rfl (miss1 rfl lkp_hit))) hHeld ?_
    show wpOrd _ _ _ _ _ _ _ _
    refine ord_skip (i := 20) (d := 32) rfl rfl (wanted_und (j := 16) (dj := 28) (b := true) rfl hsz rfl rfl rfl (miss1 rfl (miss1 rfl (miss1 rfl lkp_hit)))) hHeld ?_
    show wpOrd _ _ _ _ _ _ _ _
    refine ord_skip (i := 21) (d := 33) rfl rfl (wanted_und (j := 16) (dj := 28) (b := true) rfl hsz rfl rfl rfl (miss4 rfl rfl rfl rfl lkp_hit)) hHeld ?_
    show wpOrd _ _ _ _ _ _ _ _
    refine ord_skip (i := 22) (d := 34) rfl rfl (wanted_und (j := 16) (dj := 28) (b := true) rfl hsz rfl rfl rfl (miss4 rfl rfl rfl rfl (miss1 rfl lkp_hit))) hHeld ?_
    show wpOrd _ _ _ _ _ _ _ _
    refine ord_skip (i := 23) (d := 35) rfl rfl (wanted_und (j := 16) (dj := 28) (b := true) rfl hsz rfl rfl rfl (miss4 rfl rfl rfl rfl (miss1 rfl (miss1 rfl lkp_hit)))) hHeld ?_
    show wpOrd _ _ _ _ _ _ _ _
    refine ord_skip (i := 24) (d := 36) rfl rfl (wanted_und (j := 16) (dj := 28) (b := true) rfl hsz rfl rfl rfl (miss4 rfl rfl rfl rfl (miss1 rfl (miss1 rfl (miss1 rfl lkp_hit))))) hHeld ?_
    show wpOrd _ _ _ _ _ _ _ _
    refine ord_skip (i := 25) (d := 37) rfl rfl (wanted_und (j := 16) (dj := 28) (b := true) rfl hsz rfl rfl rfl (miss4 rfl rfl rfl rfl (miss4 rfl rfl rfl rfl lkp_hit))) hHeld ?_
    show wpOrd _ _ _ _ _ _ _ _
    refine ord_skip (i := 26) (d := 38) rfl rfl (wanted_und (j := 16) (dj := 28) (b := true) rfl hsz rfl rfl rfl (miss4 rfl rfl rfl rfl (miss4 rfl rfl rfl rfl (miss1 rfl lkp_hit)))) hHeld ?_
    show wpOrd _ _ _ _ _ _ _ _
    refine ord_skip (i := 27) (d := 39) rfl rfl (wanted_no (j := 13) (dj := 25) (b := false) (b' := true) rfl hsz rfl rfl rfl (miss4 rfl rfl rfl rfl (miss4 rfl rfl rfl rfl (miss4 rfl rfl rfl rfl (miss1 rfl lkp_hit)))) rfl) hHeld ?_
    show wpOrd _ _ _ _ _ _ _ _
    refine ord_take (i := 28) (d := 40) (v := ?_) rfl rfl (wanted_none rfl) hHeld (fun ρ hρ w hSw => ?_) ?_
    rotate_left
    ·(have hc := hρ.const; have e25 := Eq.trans (hρ.tmp hsz 25 rfl) (miss4 rfl rfl rfl rfl (miss4 rfl rfl rfl rfl (miss4 rfl rfl rfl rfl (miss1 rfl (miss1 rfl lkp_hit))))); have e39 := Eq.trans (hρ.tmp hsz 39 rfl) lkp_hit; clear hρ; (try dsimp only at hSw); go_simp; try with_reducible rfl)
    show wpOrd _ _ _ _ _ _ _ _
    refine ord_done hn2 ?_
    clear hHeld hn2 b0 b5 b1 hsz A Q2
    simp only [puts_nil, puts_cons, put_lit, set_1, set_0]
    go_wp2_with fail
    go_ret
    exact ⟨ret_bool HF.out.symm, nq + 1, rfl⟩
   have q1 : decide (u ≤ x) = false := by simpa using h1
   by_cases hi0 : 0 < i; rotate_left
   ·have HN : Hid (risL u (-1) (l.take (i + 1)) = true) := ris_step HX.out hR.out (by rw [show i = 0 by omega]; simp [lastD]; omega) (by omega)
    have hz : decide ((0 : Int) < (i : Int)) = false := by simp; omega
    have hz2 : decide (0 < i) = false := by simp; omega
    clear h0 h1
    refine wp_region_ord (S := fun W' => W'.cell? ⟨b, off + i, none⟩ = some (.int .i64 x)) (J := []) (n := _) ((0, true) :: (1, true) :: (2, true) :: (3, true) :: (4, true) :: (5, true) :: (6, true) :: (7, true) :: (8, true) :: (9, true) :: (10, true) :: (11, true) :: (12, true) :: (13, true) :: (14, true) :: (15, true) :: (16, true) :: (17, true) :: (18, true) :: (19, true) :: (20, true) :: (21, true) :: (22, true) :: (23, true) :: (24, true) :: (25, true) :: (26, true) :: (27, true) :: (28, true) :: []) (by as_aux_lemma => kernel_rfl) (by rfl) (base_cons (k := 0) (by go_simp; rfl) (base_cons (k := 5) (by go_simp; rfl) (base_cons (k := 1) (by go_simp; rfl) base_nil))) ?_ (fun _ _ _ _ _ h => h) (fun Q2 A hsz hbase hn2 hHeld => ?_)
    ·exact HC.out
    try dsimp only at hHeld
    obtain ⟨b0, b5, b1, -⟩ := hbase
    refine ord_move (i := 0) (d := 12) (v := ?_) rfl rfl rfl (wanted_none rfl) hHeld (fun ρ hρ => ?_) ?_
    rotate_left
    ·(have e0 := Eq.trans (hρ.tmp hsz 0 rfl) (lkp_base b0); exact e0)
    show wpOrd _ _ _ _ _ _ _ _
    refine ord_move (i := 1) (d := 13) (v := ?_) rfl rfl rfl (wanted_none rfl) hHeld (fun ρ hρ => ?_) ?_
    rotate_left
    ·(have e5 := Eq.trans (hρ.tmp hsz 5 rfl) (miss1 rfl (lkp_base b5)); exact e5)
    show wpOrd _ _ _ _ _ _ _ _
    refine ord_take (i := 2) (d := 14) (v := ?_) rfl rfl (wanted_none rfl) hHeld (fun ρ hρ w hSw => ?_) ?_
    rotate_left
    ·(have e12 := Eq.trans (hρ.tmp hsz 12 rfl) (miss1 rfl lkp_hit); have e13 := Eq.trans (hρ.tmp hsz 13 rfl) lkp_hit; clear hρ; (try dsimp only at hSw); go_simp; try with_reducible rfl)
    show wpOrd _ _ _ _ _ _ _ _
    refine ord_take (i := 3) (d := 15) (v := ?_) rfl rfl (wanted_none rfl) hHeld (fun ρ hρ w hSw => ?_) ?_
    rotate_left
    ·(have e14 := Eq.trans (hρ.tmp hsz 14 rfl) lkp_hit; clear hρ; (try dsimp only at hSw); have hx := hSw; clear hSw; go_simp; try with_reducible rfl)
    show wpOrd _ _ _ _ _ _ _ _
    refine ord_take (i := 4) (d := 16) (v := ?_) rfl rfl (wanted_none rfl) hHeld (fun ρ hρ w hSw => ?_) ?_
    rotate_left
    ·(have hc := hρ.const; have e15 := Eq.trans (hρ.tmp hsz 15 rfl) lkp_hit; clear hρ; (try dsimp only at hSw); go_simp; try with_reducible rfl)
    show wpOrd _ _ _ _ _ _ _ _
    refine ord_move (i := 5) (d := 17) (v := ?_) rfl rfl rfl (wanted_none rfl) hHeld (fun ρ hρ => ?_) ?_
    rotate_left
    ·(have e16 := Eq.trans (hρ.tmp hsz 16 rfl) lkp_hit; exact e16)
    show wpOrd _ _ _ _ _ _ _ _
    refine ord_move (i := 6) (d := 18) (v := ?_) rfl rfl rfl (wanted_yes (j := 5) (dj := 17) (b := false) rfl hsz rfl rfl rfl lkp_hit) hHeld (fun ρ hρ => ?_) ?_
    rotate_left
    ·(have e0 := Eq.trans (hρ.tmp hsz 0 rfl) (miss4 rfl rfl rfl rfl (miss1 rfl (miss1 rfl (lkp_base b0)))); exact e0)
    show wpOrd _ _ _ _ _ _ _ _
    refine ord_move (i := 7) (d := 19) (v := ?_) rfl rfl rfl (wanted_yes (j := 5) (dj := 17) (b := false) rfl hsz rfl rfl rfl (miss1 rfl lkp_hit)) hHeld (fun ρ hρ => ?_) ?_
    rotate_left
    ·(have e5 := Eq.trans (hρ.tmp hsz 5 rfl) (miss4 rfl rfl rfl rfl (miss1 rfl (miss1 rfl (miss1 rfl (lkp_base b5))))); exact e5)
    show wpOrd _ _ _ _ _ _ _ _
    refine ord_take (i := 8) (d := 20) (v := ?_) rfl rfl (wanted_yes (j := 5) (dj := 17) (b := false) rfl hsz rfl rfl rfl (miss1 rfl (miss1 rfl lkp_hit))) hHeld (fun ρ hρ w hSw => ?_) ?_
    rotate_left
    ·(have e18 := Eq.trans (hρ.tmp hsz 18 rfl) (miss1 rfl lkp_hit); have e19 := Eq.trans (hρ.tmp hsz 19 rfl) lkp_hit; clear hρ; (try dsimp only at hSw); go_simp; try with_reducible rfl)
    show wpOrd _ _ _ _ _ _ _ _
    refine ord_take (i := 9) (d := 21) (v := ?_) rfl rfl (wanted_yes (j := 5) (dj := 17) (b := false) rfl hsz rfl rfl rfl (miss1 rfl (miss1 rfl (miss1 rfl lkp_hit)))) hHeld (fun ρ hρ w hSw => ?_) ?_
    rotate_left
    ·(have e20 := Eq.trans (hρ.tmp hsz 20 rfl) lkp_hit; clear hρ; (try dsimp only at hSw); have hx := hSw; clear hSw; go_simp; try with_reducible rfl)
    show wpOrd _ _ _ _ _ _ _ _
    refine ord_move (i := 10) (d := 22) (v := ?_) rfl rfl rfl (wanted_yes (j := 5) (dj := 17) (b := false) rfl hsz rfl rfl rfl (miss4 rfl rfl rfl rfl lkp_hit)) hHeld (fun ρ hρ => ?_) ?_
    rotate_left
    ·(have e1 := Eq.trans (hρ.tmp hsz 1 rfl) (miss4 rfl rfl rfl rfl (miss4 rfl rfl rfl rfl (miss1 rfl (miss1 rfl (lkp_base b1))))); exact e1)
    show wpOrd _ _ _ _ _ _ _ _
    refine ord_take (i := 11) (d := 23) (v := ?_) rfl rfl (wanted_yes (j := 5) (dj := 17) (b := false) rfl hsz rfl rfl rfl (miss4 rfl rfl rfl rfl (miss1 rfl lkp_hit))) hHeld (fun ρ hρ w hSw => ?_) ?_
    rotate_left
    ·(have e21 := Eq.trans (hρ.tmp hsz 21 rfl) (miss1 rfl lkp_hit); have e22 := Eq.trans (hρ.tmp hsz 22 rfl) lkp_hit; clear hρ; (try dsimp only at hSw); go_simp; try with_reducible rfl)
    show wpOrd _ _ _ _ _ _ _ _
    refine ord_take (i := 12) (d := 24) (v := ?_) rfl rfl (wanted_none rfl) hHeld (fun ρ hρ w hSw => ?_) ?_
    rotate_left
    ·(have hc := hρ.const; have e17 := Eq.trans (hρ.tmp hsz 17 rfl) (miss4 rfl rfl rfl rfl (miss1 rfl (miss1 rfl lkp_hit))); have e23 := Eq.trans (hρ.tmp hsz 23 rfl) lkp_hit; clear hρ; (try dsimp only at hSw); go_simp; try with_reducible rfl)
    show wpOrd _ _ _ _ _ _ _ _
    refine ord_move (i := 13) (d := 25) (v := ?_) rfl rfl rfl (wanted_none rfl) hHeld (fun ρ hρ => ?_) ?_
    rotate_left
    ·(have e24 := Eq.trans (hρ.tmp hsz 24 rfl) lkp_hit; exact e24)
    show wpOrd _ _ _ _ _ _ _ _
    refine ord_move (i := 14) (d := 26) (v := ?_) rfl rfl rfl (wanted_yes (j := 13) (dj := 25) (b := false) rfl hsz rfl rfl rfl lkp_hit) hHeld (fun ρ hρ => ?_) ?_
    rotate_left
    ·(have e5 := Eq.trans (hρ.tmp hsz 5 rfl) (miss4 rfl rfl rfl rfl (miss4 rfl rfl rfl rfl (miss4 rfl rfl rfl rfl (miss1 rfl (miss1 rfl (lkp_base b5)))))); exact e5)
    show wpOrd _ _ _ _ _ _ _ _
    refine ord_take (i := 15) (d := 27) (v := ?_) rfl rfl (wanted_yes (j := 13) (dj := 25) (b := false) rfl hsz rfl rfl rfl (miss1 rfl lkp_hit)) hHeld (fun ρ hρ w hSw => ?_) ?_
    rotate_left
    ·(have hc := hρ.const; have e26 := Eq.trans (hρ.tmp hsz 26 rfl) lkp_hit; clear hρ; (try dsimp only at hSw); go_simp; try with_reducible rfl)
    show wpOrd _ _ _ _ _ _ _ _
    refine ord_move (i := 16) (d := 28) (v := ?_) rfl rfl rfl (wanted_yes (j := 13) (dj := 25) (b := false) rfl hsz rfl rfl rfl (miss1 rfl (miss1 rfl lkp_hit))) hHeld (fun ρ hρ => ?_) ?_
    rotate_left
    ·(have e27 := Eq.trans (hρ.tmp hsz 27 rfl) lkp_hit; exact e27)
    show wpOrd _ _ _ _ _ _ _ _
    refine ord_skip (i := 17) (d := 29) rfl rfl (wanted_no (j := 16) (dj := 28) (b := true) (b' := false) rfl hsz rfl rfl rfl lkp_hit rfl) hHeld ?_
    show wpOrd _ _ _ _ _ _ _ _
    refine ord_skip (i := 18) (d := 30) rfl rfl (wanted_no (j := 16) (dj := 28) (b := true) (b' := false) rfl hsz rfl rfl rfl (miss1 rfl lkp_hit) rfl) hHeld ?_
    show wpOrd _ _ _ _ _ _ _ _
    refine ord_skip (i := 19) (d := 31) rfl rfl (wanted_no (j := 16) (dj := 28) (b := true) (b' := false) rfl hsz rfl rfl rfl (miss1 rfl (miss1 rfl lkp_hit)) rfl) hHeld ?_
    show wpOrd _ _ _ _ _ _ _ _
    refine ord_skip (i := 20) (d := 32) rfl rfl (wanted_no (j := 16) (dj := 28) (b := true) (b' := false) rfl hsz rfl rfl rfl (miss1 rfl (miss1 rfl (miss1 rfl lkp_hit))) rfl) hHeld ?_
    show wpOrd _ _ _ _ _ _ _ _
    refine ord_skip (i := 21) (d := 33) rfl rfl (wanted_no (j := 16) (dj := 28) (b := true) (b' := false) rfl hsz rfl rfl rfl (miss4 rfl rfl rfl rfl lkp_hit) rfl) hHeld ?_
    show wpOrd _ _ _ _ _ _ _ _
    refine ord_skip (i := 22) (d := 34) rfl rfl (wanted_no (j := 16) (dj := 28) (b := true) (b' := false) rfl hsz rfl rfl rfl (miss4 rfl rfl rfl rfl (miss1 rfl lkp_hit)) rfl) hHeld ?_
    show wpOrd _ _ _ _ _ _ _ _
    refine ord_skip (i := 23) (d := 35) rfl rfl (wanted_no (j := 16) (dj := 28) (b := true) (b' := false) rfl hsz rfl rfl rfl (miss4 rfl rfl rfl rfl (miss1 rfl (miss1 rfl lkp_hit))) rfl) hHeld ?_
    show wpOrd _ _ _ _ _ _ _ _
    refine ord_skip (i := 24) (d := 36) rfl rfl (wanted_no (j := 16) (dj := 28) (b := true) (b' := false) rfl hsz rfl rfl rfl (miss4 rfl rfl rfl rfl (miss1 rfl (miss1 rfl (miss1 rfl lkp_hit)))) rfl) hHeld ?_
    show wpOrd _ _ _ _ _ _ _ _
    refine ord_skip (i := 25) (d := 37) rfl rfl (wanted_no (j := 16) (dj := 28) (b := true) (b' := false) rfl hsz rfl rfl rfl (miss4 rfl rfl rfl rfl (miss4 rfl rfl rfl rfl lkp_hit)) rfl) hHeld ?_
    show wpOrd _ _ _ _ _ _ _ _
    refine ord_skip (i := 26) (d := 38) rfl rfl (wanted_no (j := 16) (dj := 28) (b := true) (b' := false) rfl hsz rfl rfl rfl (miss4 rfl rfl rfl rfl (miss4 rfl rfl rfl rfl (miss1 rfl lkp_hit))) rfl) hHeld ?_
    show wpOrd _ _ _ _ _ _ _ _
    refine ord_take (i := 27) (d := 39) (v := ?_) rfl rfl (wanted_yes (j := 13) (dj := 25) (b := false) rfl hsz rfl rfl rfl (miss4 rfl rfl rfl rfl (miss4 rfl rfl rfl rfl (miss4 rfl rfl rfl rfl (miss1 rfl lkp_hit))))) hHeld (fun ρ hρ w hSw => ?_) ?_
    rotate_left
    ·(have hc := hρ.const; have e28 := Eq.trans (hρ.tmp hsz 28 rfl) (miss4 rfl rfl rfl rfl (miss4 rfl rfl rfl rfl (miss1 rfl (miss1 rfl lkp_hit)))); have e38 := Eq.trans (hρ.tmp hsz 38 rfl) lkp_hit; clear hρ; (try dsimp only at hSw); go_simp; try with_reducible rfl)
    show wpOrd _ _ _ _ _ _ _ _
    refine ord_take (i := 28) (d := 40) (v := ?_) rfl rfl (wanted_none rfl) hHeld (fun ρ hρ w hSw => ?_) ?_
    rotate_left
    ·(have hc := hρ.const; have e25 := Eq.trans (hρ.tmp hsz 25 rfl) (miss4 rfl rfl rfl rfl (miss4 rfl rfl rfl rfl (miss4 rfl rfl rfl rfl (miss1 rfl (miss1 rfl lkp_hit))))); have e39 := Eq.trans (hρ.tmp hsz 39 rfl) lkp_hit; clear hρ; (try dsimp only at hSw); go_simp; try with_reducible rfl)
    show wpOrd _ _ _ _ _ _ _ _
    refine ord_done hn2 ?_
    clear hHeld hn2 b0 b5 b1 hsz A Q2
    simp only [puts_nil, puts_cons, put_lit, set_1, set_0]
    go_wp2_with fail
    go_roundg (n - (i + 1))
    case rel => exact ⟨i + 1, nq + 1, by go_num, by omega, rfl, rfl, HN⟩
    case measure => omega
   obtain ⟨b2, off2, y, e2, hb2, hy, hcy⟩ := HS.out.at1 (k := i - 1) (by omega)
   injection e2 with e2; injection e2 with e2 e3; subst e2 e3
   have HC2 : Hid ((w.drewN nq).cell? ⟨b, off + i, none⟩ = some (.int .i64 x) ∧ (w.drewN nq).cell? ⟨b, off + (i - 1), none⟩ = some (.int .i64 y)) := ⟨HC.out, hcy⟩
   have HLY : Hid (lastD (-1) (l.take i) = y) := by have := lastD_take (p := -1) hy; rwa [show i - 1 + 1 = i by omega] at this
   have hz : decide ((0 : Int) < (i : Int)) = true := by simpa using hi0
   have hz2 : decide (0 < i) = true := by simpa using hi0
   have hsub : IntKind.wrap .i64 ((i : Int) - 1) = ((i - 1 : Nat) : Int) := by rw [IntKind.wrap_i64]; omega
   have hin1 : i - 1 < n := by omega
   clear hy hcy HC
   by_cases h2 : x ≤ y
   ·have q2 : decide (x ≤ y) = true := by simpa using h2
    have HF : Hid (risL u (-1) l = false) := ris_stop HX.out fun h _ => by rw [HLY.out] at h; omega
    clear h0 h1 h2
    refine wp_region_ord (S := fun W' => W'.cell? ⟨b, off + i, none⟩ = some (.int .i64 x) ∧ W'.cell? ⟨b, off + (i - 1), none⟩ = some (.int .i64 y)) (J := []) (n := _) ((0, true) :: (1, true) :: (2, true) :: (3, true) :: (4, true) :: (5, true) :: (6, true) :: (7, true) :: (8, true) :: (9, true) :: (10, true) :: (11, true) :: (12, true) :: (13, true) :: (14, true) :: (15, true) :: (16, true) :: (17, true) :: (18, true) :: (19, true) :: (20, true) :: (21, true) :: (22, true) :: (23, true) :: (24, true) :: (25, true) :: (26, true) :: (27, true) :: (28, true) :: []) (by as_aux_lemma => kernel_rfl) (by rfl) (base_cons (k := 0) (by go_simp; rfl) (base_cons (k := 5) (by go_simp; rfl) (base_cons (k := 1) (by go_simp; rfl) base_nil))) ?_ (fun _ _ _ _ _ h => h) (fun Q2 A hsz hbase hn2 hHeld => ?_)
    ·exact HC2.out
    try dsimp only at hHeld
    obtain ⟨b0, b5, b1, -⟩ := hbase
    refine ord_move (i := 0) (d := 12) (v := ?_) rfl rfl rfl (wanted_none rfl) hHeld (fun ρ hρ => ?_) ?_
    rotate_left
    ·(have e0 := Eq.trans (hρ.tmp hsz 0 rfl) (lkp_base b0); exact e0)
    show wpOrd _ _ _ _ _ _ _ _
    refine ord_move (i := 1) (d := 13) (v := ?_) rfl rfl rfl (wanted_none rfl) hHeld (fun ρ hρ => ?_) ?_
    rotate_left
    ·(have e5 := Eq.trans (hρ.tmp hsz 5 rfl) (miss1 rfl (lkp_base b5)); exact e5)
    show wpOrd _ _ _ _ _ _ _ _
    refine ord_take (i := 2) (d := 14) (v := ?_) rfl rfl (wanted_none rfl) hHeld (fun ρ hρ w hSw => ?_) ?_
    rotate_left
    ·(have e12 := Eq.trans (hρ.tmp hsz 12 rfl) (miss1 rfl lkp_hit); have e13 := Eq.trans (hρ.tmp hsz 13 rfl) lkp_hit; clear hρ; (try dsimp only at hSw); go_simp; try with_reducible rfl)
    show wpOrd _ _ _ _ _ _ _ _
    refine ord_take (i := 3) (d := 15) (v := ?_) rfl rfl (wanted_none rfl) hHeld (fun ρ hρ w hSw => ?_) ?_
    rotate_left
    ·(have e14 := Eq.trans (hρ.tmp hsz 14 rfl) lkp_hit; clear hρ; (try dsimp only at hSw); have hx := hSw.1; clear hSw; go_simp; try with_reducible rfl)
    show wpOrd _ _ _ _ _ _ _ _
    refine ord_take (i := 4) (d := 16) (v := ?_) rfl rfl (wanted_none rfl) hHeld (fun ρ hρ w hSw => ?_) ?_
    rotate_left
    ·(have hc := hρ.const; have e15 := Eq.trans (hρ.tmp hsz 15 rfl) lkp_hit; clear hρ; (try dsimp only at hSw); go_simp; try with_reducible rfl)
    show wpOrd _ _ _ _ _ _ _ _
    refine ord_move (i := 5) (d := 17) (v := ?_) rfl rfl rfl (wanted_none rfl) hHeld (fun ρ hρ => ?_) ?_
    rotate_left
    ·(have e16 := Eq.trans (hρ.tmp hsz 16 rfl) lkp_hit; exact e16)
    show wpOrd _ _ _ _ _ _ _ _
    refine ord_move (i := 6) (d := 18) (v := ?_) rfl rfl rfl (wanted_yes (j := 5) (dj := 17) (b := false) rfl hsz rfl rfl rfl lkp_hit) hHeld (fun ρ hρ => ?_) ?_
    rotate_left
    ·(have e0 := Eq.trans (hρ.tmp hsz 0 rfl) (miss4 rfl rfl rfl rfl (miss1 rfl (miss1 rfl (lkp_base b0)))); exact e0)
    show wpOrd _ _ _ _ _ _ _ _
    refine ord_move (i := 7) (d := 19) (v := ?_) rfl rfl rfl (wanted_yes (j := 5) (dj := 17) (b := false) rfl hsz rfl rfl rfl (miss1 rfl lkp_hit)) hHeld (fun ρ hρ => ?_) ?_
    rotate_left
    ·(have e5 := Eq.trans (hρ.tmp hsz 5 rfl) (miss4 rfl rfl rfl rfl (miss1 rfl (miss1 rfl (miss1 rfl (lkp_base b5))))); exact e5)
    show wpOrd _ _ _ _ _ _ _ _
    refine ord_take (i := 8) (d := 20) (v := ?_) rfl rfl (wanted_yes (j := 5) (dj := 17) (b := false) rfl hsz rfl rfl rfl (miss1 rfl (miss1 rfl lkp_hit))) hHeld (fun ρ hρ w hSw => ?_) ?_
    rotate_left
    ·(have e18 := Eq.trans (hρ.tmp hsz 18 rfl) (miss1 rfl lkp_hit); have e19 := Eq.trans (hρ.tmp hsz 19 rfl) lkp_hit; clear hρ; (try dsimp only at hSw); go_simp; try with_reducible rfl)
    show wpOrd _ _ _ _ _ _ _ _
    refine ord_take (i := 9) (d := 21) (v := ?_) rfl rfl (wanted_yes (j := 5) (dj := 17) (b := false) rfl hsz rfl rfl rfl (miss1 rfl (miss1 rfl (miss1 rfl lkp_hit)))) hHeld (fun ρ hρ w hSw => ?_) ?_
    rotate_left
    ·(have e20 := Eq.trans (hρ.tmp hsz 20 rfl) lkp_hit; clear hρ; (try dsimp only at hSw); have hx := hSw.1; clear hSw; go_simp; try with_reducible rfl)
    show wpOrd _ _ _ _ _ _ _ _
    refine ord_move (i := 10) (d := 22) (v := ?_) rfl rfl rfl (wanted_yes (j := 5) (dj := 17) (b := false) rfl hsz rfl rfl rfl (miss4 rfl rfl rfl rfl lkp_hit)) hHeld (fun ρ hρ => ?_) ?_
    rotate_left
    ·(have e1 := Eq.trans (hρ.tmp hsz 1 rfl) (miss4 rfl rfl rfl rfl (miss4 rfl rfl rfl rfl (miss1 rfl (miss1 rfl (lkp_base b1))))); exact e1)
    show wpOrd _ _ _ _ _ _ _ _
    refine ord_take (i := 11) (d := 23) (v := ?_) rfl rfl (wanted_yes (j := 5) (dj := 17) (b := false) rfl hsz rfl rfl rfl (miss4 rfl rfl rfl rfl (miss1 rfl lkp_hit))) hHeld (fun ρ hρ w hSw => ?_) ?_
    rotate_left
    ·(have e21 := Eq.trans (hρ.tmp hsz 21 rfl) (miss1 rfl lkp_hit); have e22 := Eq.trans (hρ.tmp hsz 22 rfl) lkp_hit; clear hρ; (try dsimp only at hSw); go_simp; try with_reducible rfl)
    show wpOrd _ _ _ _ _ _ _ _
    refine ord_take (i := 12) (d := 24) (v := ?_) rfl rfl (wanted_none rfl) hHeld (fun ρ hρ w hSw => ?_) ?_
    rotate_left
    ·(have hc := hρ.const; have e17 := Eq.trans (hρ.tmp hsz 17 rfl) (miss4 rfl rfl rfl rfl (miss1 rfl (miss1 rfl lkp_hit))); have e23 := Eq.trans (hρ.tmp hsz 23 rfl) lkp_hit; clear hρ; (try dsimp only at hSw); go_simp; try with_reducible rfl)
    show wpOrd _ _ _ _ _ _ _ _
    refine ord_move (i := 13) (d := 25) (v := ?_) rfl rfl rfl (wanted_none rfl) hHeld (fun ρ hρ => ?_) ?_
    rotate_left
    ·(have e24 := Eq.trans (hρ.tmp hsz 24 rfl) lkp_hit; exact e24)
    show wpOrd _ _ _ _ _ _ _ _
    refine ord_move (i := 14) (d := 26) (v := ?_) rfl rfl rfl (wanted_yes (j := 13) (dj := 25) (b := false) rfl hsz rfl rfl rfl lkp_hit) hHeld (fun ρ hρ => ?_) ?_
    rotate_left
    ·(have e5 := Eq.trans (hρ.tmp hsz 5 rfl) (miss4 rfl rfl rfl rfl (miss4 rfl rfl rfl rfl (miss4 rfl rfl rfl rfl (miss1 rfl (miss1 rfl (lkp_base b5)))))); exact e5)
    show wpOrd _ _ _ _ _ _ _ _
    refine ord_take (i := 15) (d := 27) (v := ?_) rfl rfl (wanted_yes (j := 13) (dj := 25) (b := false) rfl hsz rfl rfl rfl (miss1 rfl lkp_hit)) hHeld (fun ρ hρ w hSw => ?_) ?_
    rotate_left
    ·(have hc := hρ.const; have e26 := Eq.trans (hρ.tmp hsz 26 rfl) lkp_hit; clear hρ; (try dsimp only at hSw); go_simp; try with_reducible rfl)
    show wpOrd _ _ _ _ _ _ _ _
    refine ord_move (i := 16) (d := 28) (v := ?_) rfl rfl rfl (wanted_yes (j := 13) (dj := 25) (b := false) rfl hsz rfl rfl rfl (miss1 rfl (miss1 rfl lkp_hit))) hHeld (fun ρ hρ => ?_) ?_
    rotate_left
    ·(have e27 := Eq.trans (hρ.tmp hsz 27 rfl) lkp_hit; exact e27)
    show wpOrd _ _ _ _ _ _ _ _
    refine ord_move (i := 17) (d := 29) (v := ?_) rfl rfl rfl (wanted_yes (j := 16) (dj := 28) (b := true) rfl hsz rfl rfl rfl lkp_hit) hHeld (fun ρ hρ => ?_) ?_
    rotate_left
    ·(have e0 := Eq.trans (hρ.tmp hsz 0 rfl) (miss4 rfl rfl rfl rfl (miss4 rfl rfl rfl rfl (miss4 rfl rfl rfl rfl (miss4 rfl rfl rfl rfl (miss1 rfl (lkp_base b0)))))); exact e0)
    show wpOrd _ _ _ _ _ _ _ _
    refine ord_move (i := 18) (d := 30) (v := ?_) rfl rfl rfl (wanted_yes (j := 16) (dj := 28) (b := true) rfl hsz rfl rfl rfl (miss1 rfl lkp_hit)) hHeld (fun ρ hρ => ?_) ?_
    rotate_left
    ·(have e5 := Eq.trans (hρ.tmp hsz 5 rfl) (miss4 rfl rfl rfl rfl (miss4 rfl rfl rfl rfl (miss4 rfl rfl rfl rfl (miss4 rfl rfl rfl rfl (miss1 rfl (miss1 rfl (lkp_base b5))))))); exact e5)
    show wpOrd _ _ _ _ _ _ _ _
    refine ord_take (i := 19) (d := 31) (v := ?_) rfl rfl (wanted_yes (j := 16) (dj := 28) (b := true) rfl hsz rfl rfl rfl (miss1 rfl (miss1 rfl lkp_hit))) hHeld (fun ρ hρ w hSw => ?_) ?_
    rotate_left
    ·(have e29 := Eq.trans (hρ.tmp hsz 29 rfl) (miss1 rfl lkp_hit); have e30 := Eq.trans (hρ.tmp hsz 30 rfl) lkp_hit; clear hρ; (try dsimp only at hSw); go_simp; try with_reducible rfl)
    show wpOrd _ _ _ _ _ _ _ _
    refine ord_take (i := 20) (d := 32) (v := ?_) rfl rfl (wanted_yes (j := 16) (dj := 28) (b := true) rfl hsz rfl rfl rfl (miss1 rfl (miss1 rfl (miss1 rfl lkp_hit)))) hHeld (fun ρ hρ w hSw => ?_) ?_
    rotate_left
    ·(have e31 := Eq.trans (hρ.tmp hsz 31 rfl) lkp_hit; clear hρ; (try dsimp only at hSw); have hx := hSw.1; clear hSw; go_simp; try with_reducible rfl)
    show wpOrd _ _ _ _ _ _ _ _
    refine ord_move (i := 21) (d := 33) (v := ?_) rfl rfl rfl (wanted_yes (j := 16) (dj := 28) (b := true) rfl hsz rfl rfl rfl (miss4 rfl rfl rfl rfl lkp_hit)) hHeld (fun ρ hρ => ?_) ?_
    rotate_left
    ·(have e0 := Eq.trans (hρ.tmp hsz 0 rfl) (miss4 rfl rfl rfl rfl (miss4 rfl rfl rfl rfl (miss4 rfl rfl rfl rfl (miss4 rfl rfl rfl rfl (miss4 rfl rfl rfl rfl (miss1 rfl (lkp_base b0))))))); exact e0)
    show wpOrd _ _ _ _ _ _ _ _
    refine ord_move (i := 22) (d := 34) (v := ?_) rfl rfl rfl (wanted_yes (j := 16) (dj := 28) (b := true) rfl hsz rfl rfl rfl (miss4 rfl rfl rfl rfl (miss1 rfl lkp_hit))) hHeld (fun ρ hρ => ?_) ?_
    rotate_left
    ·(have e5 := Eq.trans (hρ.tmp hsz 5 rfl) (miss4 rfl rfl rfl rfl (miss4 rfl rfl rfl rfl (miss4 rfl rfl rfl rfl (miss4 rfl rfl rfl rfl (miss4 rfl rfl rfl rfl (miss1 rfl (miss1 rfl (lkp_base b5)))))))); exact e5)
    show wpOrd _ _ _ _ _ _ _ _
    refine ord_take (i := 23) (d := 35) (v := ?_) rfl rfl (wanted_yes (j := 16) (dj := 28) (b := true) rfl hsz rfl rfl rfl (miss4 rfl rfl rfl rfl (miss1 rfl (miss1 rfl lkp_hit)))) hHeld (fun ρ hρ w hSw => ?_) ?_
    rotate_left
    ·(have hc := hρ.const; have e34 := Eq.trans (hρ.tmp hsz 34 rfl) lkp_hit; clear hρ; (try dsimp only at hSw); go_simp; try with_reducible rfl)
    show wpOrd _ _ _ _ _ _ _ _
    refine ord_take (i := 24) (d := 36) (v := ?_) rfl rfl (wanted_yes (j := 16) (dj := 28) (b := true) rfl hsz rfl rfl rfl (miss4 rfl rfl rfl rfl (miss1 rfl (miss1 rfl (miss1 rfl lkp_hit))))) hHeld (fun ρ hρ w hSw => ?_) ?_
    rotate_left
    ·(have e33 := Eq.trans (hρ.tmp hsz 33 rfl) (miss1 rfl (miss1 rfl lkp_hit)); have e35 := Eq.trans (hρ.tmp hsz 35 rfl) lkp_hit; clear hρ; (try dsimp only at hSw); go_simp; try with_reducible rfl)
    show wpOrd _ _ _ _ _ _ _ _
    refine ord_take (i := 25) (d := 37) (v := ?_) rfl rfl (wanted_yes (j := 16) (dj := 28) (b := true) rfl hsz rfl rfl rfl (miss4 rfl rfl rfl rfl (miss4 rfl rfl rfl rfl lkp_hit))) hHeld (fun ρ hρ w hSw => ?_) ?_
    rotate_left
    ·(have e36 := Eq.trans (hρ.tmp hsz 36 rfl) lkp_hit; clear hρ; (try dsimp only at hSw); have hx := hSw.2; clear hSw; go_simp; try with_reducible rfl)
    show wpOrd _ _ _ _ _ _ _ _
    refine ord_take (i := 26) (d := 38) (v := ?_) rfl rfl (wanted_yes (j := 16) (dj := 28) (b := true) rfl hsz rfl rfl rfl (miss4 rfl rfl rfl rfl (miss4 rfl rfl rfl rfl (miss1 rfl lkp_hit)))) hHeld (fun ρ hρ w hSw => ?_) ?_
    rotate_left
    ·(have e32 := Eq.trans (hρ.tmp hsz 32 rfl) (miss4 rfl rfl rfl rfl (miss1 rfl lkp_hit)); have e37 := Eq.trans (hρ.tmp hsz 37 rfl) lkp_hit; clear hρ; (try dsimp only at hSw); go_simp; try with_reducible rfl)
    show wpOrd _ _ _ _ _ _ _ _
    refine ord_take (i := 27) (d := 39) (v := ?_) rfl rfl (wanted_yes (j := 13) (dj := 25) (b := false) rfl hsz rfl rfl rfl (miss4 rfl rfl rfl rfl (miss4 rfl rfl rfl rfl (miss4 rfl rfl rfl rfl (miss1 rfl lkp_hit))))) hHeld (fun ρ hρ w hSw => ?_) ?_
    rotate_left
    ·(have hc := hρ.const; have e28 := Eq.trans (hρ.tmp hsz 28 rfl) (miss4 rfl rfl rfl rfl (miss4 rfl rfl rfl rfl (miss1 rfl (miss1 rfl lkp_hit)))); have e38 := Eq.trans (hρ.tmp hsz 38 rfl) lkp_hit; clear hρ; (try dsimp only at hSw); go_simp; try with_reducible rfl)
    show wpOrd _ _ _ _ _ _ _ _
    refine ord_take (i := 28) (d := 40) (v := ?_) rfl rfl (wanted_none rfl) hHeld (fun ρ hρ w hSw => ?_) ?_
    rotate_left
    ·(have hc := hρ.const; have e25 := Eq.trans (hρ.tmp hsz 25 rfl) (miss4 rfl rfl rfl rfl (miss4 rfl rfl rfl rfl (miss4 rfl rfl rfl rfl (miss1 rfl (miss1 rfl lkp_hit))))); have e39 := Eq.trans (hρ.tmp hsz 39 rfl) lkp_hit; clear hρ; (try dsimp only at hSw); go_simp; try with_reducible rfl)
    show wpOrd _ _ _ _ _ _ _ _
    refine ord_done hn2 ?_
    clear hHeld hn2 b0 b5 b1 hsz A Q2
    simp only [puts_nil, puts_cons, put_lit, set_1, set_0]
    go_wp2_with fail
    go_ret
    exact ⟨ret_bool HF.out.symm, nq + 1, rfl⟩
   have q2 : decide (x ≤ y) = false := by simpa using h2
   have HN : Hid (risL u (-1) (l.take (i + 1)) = true) := ris_step HX.out hR.out (by rw [HLY.out]; omega) (by omega)
   clear h0 h1 h2
   refine wp_region_ord (S := fun W' => W'.cell? ⟨b, off + i, none⟩ = some (.int .i64 x) ∧ W'.cell? ⟨b, off + (i - 1), none⟩ = some (.int .i64 y)) (J := []) (n := _) ((0, true) :: (1, true) :: (2, true) :: (3, true) :: (4, true) :: (5, true) :: (6, true) :: (7, true) :: (8, true) :: (9, true) :: (10, true) :: (11, true) :: (12, true) :: (13, true) :: (14, true) :: (15, true) :: (16, true) :: (17, true) :: (18, true) :: (19, true) :: (20, true) :: (21, true) :: (22, true) :: (23, true) :: (24, true) :: (25, true) :: (26, true) :: (27, true) :: (28, true) :: []) (by as_aux_lemma => kernel_rfl) (by rfl) (base_cons (k := 0) (by go_simp; rfl) (base_cons (k := 5) (by go_simp; rfl) (base_cons (k := 1) (by go_simp; rfl) base_nil))) ?_ (fun _ _ _ _ _ h => h) (fun Q2 A hsz hbase hn2 hHeld => ?_)
   ·exact HC2.out
   try dsimp only at hHeld
   obtain ⟨b0, b5, b1, -⟩ := hbase
   refine ord_move (i := 0) (d := 12) (v := ?_) rfl rfl rfl (wanted_none rfl) hHeld (fun ρ hρ => ?_) ?_
   rotate_left
   ·(have e0 := Eq.trans (hρ.tmp hsz 0 rfl) (lkp_base b0); exact e0)
   show wpOrd _ _ _ _ _ _ _ _
   refine ord_move (i := 1) (d := 13) (v := ?_) rfl rfl rfl (wanted_none rfl) hHeld (fun ρ hρ => ?_) ?_
   rotate_left
   ·(have e5 := Eq.trans (hρ.tmp hsz 5 rfl) (miss1 rfl (lkp_base b5)); exact e5)
   show wpOrd _ _ _ _ _ _ _ _
   refine ord_take (i := 2) (d := 14) (v := ?_) rfl rfl (wanted_none rfl) hHeld (fun ρ hρ w hSw => ?_) ?_
   rotate_left
   ·(have e12 := Eq.trans (hρ.tmp hsz 12 rfl) (miss1 rfl lkp_hit); have e13 := Eq.trans (hρ.tmp hsz 13 rfl) lkp_hit; clear hρ; (try dsimp only at hSw); go_simp; try with_reducible rfl)
   show wpOrd _ _ _ _ _ _ _ _
   refine ord_take (i := 3) (d := 15) (v := ?_) rfl rfl (wanted_none rfl) hHeld (fun ρ hρ w hSw => ?_) ?_
   rotate_left
   ·(have e14 := Eq.trans (hρ.tmp hsz 14 rfl) lkp_hit; clear hρ; (try dsimp only at hSw); have hx := hSw.1; clear hSw; go_simp; try with_reducible rfl)
   show wpOrd _ _ _ _ _ _ _ _
   refine ord_take (i := 4) (d := 16) (v := ?_) rfl rfl (wanted_none rfl) hHeld (fun ρ hρ w hSw => ?_) ?_
   rotate_left
   ·(have hc := hρ.const; have e15 := Eq.trans (hρ.tmp hsz 15 rfl) lkp_hit; clear hρ; (try dsimp only at hSw); go_simp; try with_reducible rfl)
   show wpOrd _ _ _ _ _ _ _ _
   refine ord_move (i := 5) (d := 17) (v := ?_) rfl rfl rfl (wanted_none rfl) hHeld (fun ρ hρ => ?_) ?_
   rotate_left
   ·(have e16 := Eq.trans (hρ.tmp hsz 16 rfl) lkp_hit; exact e16)
   show wpOrd _ _ _ _ _ _ _ _
   refine ord_move (i := 6) (d := 18) (v := ?_) rfl rfl rfl (wanted_yes (j := 5) (dj := 17) (b := false) rfl hsz rfl rfl rfl lkp_hit) hHeld (fun ρ hρ => ?_) ?_
   rotate_left
   ·(have e0 := Eq.trans (hρ.tmp hsz 0 rfl) (miss4 rfl rfl rfl rfl (miss1 rfl (miss1 rfl (lkp_base b0)))); exact e0)
   show wpOrd _ _ _ _ _ _ _ _
   refine ord_move (i := 7) (d := 19) (v := ?_) rfl rfl rfl (wanted_yes (j := 5) (dj := 17) (b := false) rfl hsz rfl rfl rfl (miss1 rfl lkp_hit)) hHeld (fun ρ hρ => ?_) ?_
   rotate_left
   ·(have e5 := Eq.trans (hρ.tmp hsz 5 rfl) (miss4 rfl rfl rfl rfl (miss1 rfl (miss1 rfl (miss1 rfl (lkp_base b5))))); exact e5)
   show wpOrd _ _ _ _ _ _ _ _
   refine ord_take (i := 8) (d := 20) (v := ?_) rfl rfl (wanted_yes (j := 5) (dj := 17) (b := false) rfl hsz rfl rfl rfl (miss1 rfl (miss1 rfl lkp_hit))) hHeld (fun ρ hρ w hSw => ?_) ?_
   rotate_left
   ·(have e18 := Eq.trans (hρ.tmp hsz 18 rfl) (miss1 rfl lkp_hit); have e19 := Eq.trans (hρ.tmp hsz 19 rfl) lkp_hit; clear hρ; (try dsimp only at hSw); go_simp; try with_reducible rfl)
   show wpOrd _ _ _ _ _ _ _ _
   refine ord_take (i := 9) (d := 21) (v := ?_) rfl rfl (wanted_yes (j := 5) (dj := 17) (b := false) rfl hsz rfl rfl rfl (miss1 rfl (miss1 rfl (miss1 rfl lkp_hit)))) hHeld (fun ρ hρ w hSw => ?_) ?_
   rotate_left
   ·(have e20 := Eq.trans (hρ.tmp hsz 20 rfl) lkp_hit; clear hρ; (try dsimp only at hSw); have hx := hSw.1; clear hSw; go_simp; try with_reducible rfl)
   show wpOrd _ _ _ _ _ _ _ _
   refine ord_move (i := 10) (d := 22) (v := ?_) rfl rfl rfl (wanted_yes (j := 5) (dj := 17) (b := false) rfl hsz rfl rfl rfl (miss4 rfl rfl rfl rfl lkp_hit)) hHeld (fun ρ hρ => ?_) ?_
   rotate_left
   ·(have e1 := Eq.trans (hρ.tmp hsz 1 rfl) (miss4 rfl rfl rfl rfl (miss4 rfl rfl rfl rfl (miss1 rfl (miss1 rfl (lkp_base b1))))); exact e1)
   show wpOrd _ _ _ _ _ _ _ _
   refine ord_take (i := 11) (d := 23) (v := ?_) rfl rfl (wanted_yes (j := 5) (dj := 17) (b := false) rfl hsz rfl rfl rfl (miss4 rfl rfl rfl rfl (miss1 rfl lkp_hit))) hHeld (fun ρ hρ w hSw => ?_) ?_
   rotate_left
   ·(have e21 := Eq.trans (hρ.tmp hsz 21 rfl) (miss1 rfl lkp_hit); have e22 := Eq.trans (hρ.tmp hsz 22 rfl) lkp_hit; clear hρ; (try dsimp only at hSw); go_simp; try with_reducible rfl)
   show wpOrd _ _ _ _ _ _ _ _
   refine ord_take (i := 12) (d := 24) (v := ?_) rfl rfl (wanted_none rfl) hHeld (fun ρ hρ w hSw => ?_) ?_
   rotate_left
   ·(have hc := hρ.const; have e17 := Eq.trans (hρ.tmp hsz 17 rfl) (miss4 rfl rfl rfl rfl (miss1 rfl (miss1 rfl lkp_hit))); have e23 := Eq.trans (hρ.tmp hsz 23 rfl) lkp_hit; clear hρ; (try dsimp only at hSw); go_simp; try with_reducible rfl)
   show wpOrd _ _ _ _ _ _ _ _
   refine ord_move (i := 13) (d := 25) (v := ?_) rfl rfl rfl (wanted_none rfl) hHeld (fun ρ hρ => ?_) ?_
   rotate_left
   ·(have e24 := Eq.trans (hρ.tmp hsz 24 rfl) lkp_hit; exact e24)
   show wpOrd _ _ _ _ _ _ _ _
   refine ord_move (i := 14) (d := 26) (v := ?_) rfl rfl rfl (wanted_yes (j := 13) (dj := 25) (b := false) rfl hsz rfl rfl rfl lkp_hit) hHeld (fun ρ hρ => ?_) ?_
   rotate_left
   ·(have e5 := Eq.trans (hρ.tmp hsz 5 rfl) (miss4 rfl rfl rfl rfl (miss4 rfl rfl rfl rfl (miss4 rfl rfl rfl rfl (miss1 rfl (miss1 rfl (lkp_base b5)))))); exact e5)
   show wpOrd _ _ _ _ _ _ _ _
   refine ord_take (i := 15) (d := 27) (v := ?_) rfl rfl (wanted_yes (j := 13) (dj := 25) (b := false) rfl hsz rfl rfl rfl (miss1 rfl lkp_hit)) hHeld (fun ρ hρ w hSw => ?_) ?_
   rotate_left
   ·(have hc := hρ.const; have e26 := Eq.trans (hρ.tmp hsz 26 rfl) lkp_hit; clear hρ; (try dsimp only at hSw); go_simp; try with_reducible rfl)
   show wpOrd _ _ _ _ _ _ _ _
   refine ord_move (i := 16) (d := 28) (v := ?_) rfl rfl rfl (wanted_yes (j := 13) (dj := 25) (b := false) rfl hsz rfl rfl rfl (miss1 rfl (miss1 rfl lkp_hit))) hHeld (fun ρ hρ => ?_) ?_
   rotate_left
   ·(have e27 := Eq.trans (hρ.tmp hsz 27 rfl) lkp_hit; exact e27)
   show wpOrd _ _ _ _ _ _ _ _
   refine ord_move (i := 17) (d := 29) (v := ?_) rfl rfl rfl (wanted_yes (j := 16) (dj := 28) (b := true) rfl hsz rfl rfl rfl lkp_hit) hHeld (fun ρ hρ => ?_) ?_
   rotate_left
   ·(have e0 := Eq.trans (hρ.tmp hsz 0 rfl) (miss4 rfl rfl rfl rfl (miss4 rfl rfl rfl rfl (miss4 rfl rfl rfl rfl (miss4 rfl rfl rfl rfl (miss1 rfl (lkp_base b0)))))); exact e0)
   show wpOrd _ _ _ _ _ _ _ _
   refine ord_move (i := 18) (d := 30) (v := ?_) rfl rfl rfl (wanted_yes (j := 16) (dj := 28) (b := true) rfl hsz rfl rfl rfl (miss1 rfl lkp_hit)) hHeld (fun ρ hρ => ?_) ?_
   rotate_left
   ·(have e5 := Eq.trans (hρ.tmp hsz 5 rfl) (miss4 rfl rfl rfl rfl (miss4 rfl rfl rfl rfl (miss4 rfl rfl rfl rfl (miss4 rfl rfl rfl rfl (miss1 rfl (miss1 rfl (lkp_base b5))))))); exact e5)
   show wpOrd _ _ _ _ _ _ _ _
   refine ord_take (i := 19) (d := 31) (v := ?_) rfl rfl (wanted_yes (j := 16) (dj := 28) (b := true) rfl hsz rfl rfl rfl (miss1 rfl (miss1 rfl lkp_hit))) hHeld (fun ρ hρ w hSw => ?_) ?_
   rotate_left
   ·(have e29 := Eq.trans (hρ.tmp hsz 29 rfl) (miss1 rfl lkp_hit); have e30 := Eq.trans (hρ.tmp hsz 30 rfl) lkp_hit; clear hρ; (try dsimp only at hSw); go_simp; try with_reducible rfl)
   show wpOrd _ _ _ _ _ _ _ _
   refine ord_take (i := 20) (d := 32) (v := ?_) rfl rfl (wanted_yes (j := 16) (dj := 28) (b := true) rfl hsz rfl rfl rfl (miss1 rfl (miss1 rfl (miss1 rfl lkp_hit)))) hHeld (fun ρ hρ w hSw => ?_) ?_
   rotate_left
   ·(have e31 := Eq.trans (hρ.tmp hsz 31 rfl) lkp_hit; clear hρ; (try dsimp only at hSw); have hx := hSw.1; clear hSw; go_simp; try with_reducible rfl)
   show wpOrd _ _ _ _ _ _ _ _
   refine ord_move (i := 21) (d := 33) (v := ?_) rfl rfl rfl (wanted_yes (j := 16) (dj := 28) (b := true) rfl hsz rfl rfl rfl (miss4 rfl rfl rfl rfl lkp_hit)) hHeld (fun ρ hρ => ?_) ?_
   rotate_left
   ·(have e0 := Eq.trans (hρ.tmp hsz 0 rfl) (miss4 rfl rfl rfl rfl (miss4 rfl rfl rfl rfl (miss4 rfl rfl rfl rfl (miss4 rfl rfl rfl rfl (miss4 rfl rfl rfl rfl (miss1 rfl (lkp_base b0))))))); exact e0)
   show wpOrd _ _ _ _ _ _ _ _
   refine ord_move (i := 22) (d := 34) (v := ?_) rfl rfl rfl (wanted_yes (j := 16) (dj := 28) (b := true) rfl hsz rfl rfl rfl (miss4 rfl rfl rfl rfl (miss1 rfl lkp_hit))) hHeld (fun ρ hρ => ?_) ?_
   rotate_left
   ·(have e5 := Eq.trans (hρ.tmp hsz 5 rfl) (miss4 rfl rfl rfl rfl (miss4 rfl rfl rfl rfl (miss4 rfl rfl rfl rfl (miss4 rfl rfl rfl rfl (miss4 rfl rfl rfl rfl (miss1 rfl (miss1 rfl (lkp_base b5)))))))); exact e5)
   show wpOrd _ _ _ _ _ _ _ _
   refine ord_take (i := 23) (d := 35) (v := ?_) rfl rfl (wanted_yes (j := 16) (dj := 28) (b := true) rfl hsz rfl rfl rfl (miss4 rfl rfl rfl rfl (miss1 rfl (miss1 rfl lkp_hit)))) hHeld (fun ρ hρ w hSw => ?_) ?_
   rotate_left
   ·(have hc := hρ.const; have e34 := Eq.trans (hρ.tmp hsz 34 rfl) lkp_hit; clear hρ; (try dsimp only at hSw); go_simp; try with_reducible rfl)
   show wpOrd _ _ _ _ _ _ _ _
   refine ord_take (i := 24) (d := 36) (v := ?_) rfl rfl (wanted_yes (j := 16) (dj := 28) (b := true) rfl hsz rfl rfl rfl (miss4 rfl rfl rfl rfl (miss1 rfl (miss1 rfl (miss1 rfl lkp_hit))))) hHeld (fun ρ hρ w hSw => ?_) ?_
   rotate_left
   ·(have e33 := Eq.trans (hρ.tmp hsz 33 rfl) (miss1 rfl (miss1 rfl lkp_hit)); have e35 := Eq.trans (hρ.tmp hsz 35 rfl) lkp_hit; clear hρ; (try dsimp only at hSw); go_simp; try with_reducible rfl)
   show wpOrd _ _ _ _ _ _ _ _
   refine ord_take (i := 25) (d := 37) (v := ?_) rfl rfl (wanted_yes (j := 16) (dj := 28) (b := true) rfl hsz rfl rfl rfl (miss4 rfl rfl rfl rfl (miss4 rfl rfl rfl rfl lkp_hit))) hHeld (fun ρ hρ w hSw => ?_) ?_
   rotate_left
   ·(have e36 := Eq.trans (hρ.tmp hsz 36 rfl) lkp_hit; clear hρ; (try dsimp only at hSw); have hx := hSw.2; clear hSw; go_simp; try with_reducible rfl)
   show wpOrd _ _ _ _ _ _ _ _
   refine ord_take (i := 26) (d := 38) (v := ?_) rfl rfl (wanted_yes (j := 16) (dj := 28) (b := true) rfl hsz rfl rfl rfl (miss4 rfl rfl rfl rfl (miss4 rfl rfl rfl rfl (miss1 rfl lkp_hit)))) hHeld (fun ρ hρ w hSw => ?_) ?_
   rotate_left
   ·(have e32 := Eq.trans (hρ.tmp hsz 32 rfl) (miss4 rfl rfl rfl rfl (miss1 rfl lkp_hit)); have e37 := Eq.trans (hρ.tmp hsz 37 rfl) lkp_hit; clear hρ; (try dsimp only at hSw); go_simp; try with_reducible rfl)
   show wpOrd _ _ _ _ _ _ _ _
   refine ord_take (i := 27) (d := 39) (v := ?_) rfl rfl (wanted_yes (j := 13) (dj := 25) (b := false) rfl hsz rfl rfl rfl (miss4 rfl rfl rfl rfl (miss4 rfl rfl rfl rfl (miss4 rfl rfl rfl rfl (miss1 rfl lkp_hit))))) hHeld (fun ρ hρ w hSw => ?_) ?_
   rotate_left
   ·(have hc := hρ.const; have e28 := Eq.trans (hρ.tmp hsz 28 rfl) (miss4 rfl rfl rfl rfl (miss4 rfl rfl rfl rfl (miss1 rfl (miss1 rfl lkp_hit)))); have e38 := Eq.trans (hρ.tmp hsz 38 rfl) lkp_hit; clear hρ; (try dsimp only at hSw); go_simp; try with_reducible rfl)
   show wpOrd _ _ _ _ _ _ _ _
   refine ord_take (i := 28) (d := 40) (v := ?_) rfl rfl (wanted_none rfl) hHeld (fun ρ hρ w hSw => ?_) ?_
   rotate_left
   ·(have hc := hρ.const; have e25 := Eq.trans (hρ.tmp hsz 25 rfl) (miss4 rfl rfl rfl rfl (miss4 rfl rfl rfl rfl (miss4 rfl rfl rfl rfl (miss1 rfl (miss1 rfl lkp_hit))))); have e39 := Eq.trans (hρ.tmp hsz 39 rfl) lkp_hit; clear hρ; (try dsimp only at hSw); go_simp; try with_reducible rfl)
   show wpOrd _ _ _ _ _ _ _ _
   refine ord_done hn2 ?_
   clear hHeld hn2 b0 b5 b1 hsz A Q2
   simp only [puts_nil, puts_cons, put_lit, set_1, set_0]
   go_wp2_with fail
   go_roundg (n - (i + 1))
   case rel => exact ⟨i + 1, nq + 1, by go_num, by omega, rfl, rfl, HN⟩
   case measure => omega
  ·obtain rfl : i = n := by omega
   have hii : decide (i < i) = false := by simp
   have HF : Hid (risL u (-1) l = true) := by have := hR.out; rw [List.take_of_length_le (by rw [HL.out]; exact Nat.le_refl _)] at this; exact this
   go_wp2_with fail
   go_ret
   exact ⟨ret_bool HF.out.symm, nq, rfl⟩
def zoneErr (ns : List Nd) (ds : List Dv) (z : List Int) : Int := if checkN ns ds ≠ 0 then checkN ns ds else if z.length = 0 then 16 else if risL ns.length (-1) z = false then 7 else 0
theorem zoneErr_zero {ns : List Nd} {ds : List Dv} {z : List Int} (h : zoneErr ns ds z = 0) : checkN ns ds = 0 ∧ 0 < z.length ∧ risL ns.length (-1) z = true := by
 unfold zoneErr at h
 split at h
 ·next h1 => exact absurd h h1
 next h1 =>
 split at h
 ·cases h
 next h2 =>
 split at h
 ·cases h
 next h3 => exact ⟨by simpa using h1, by omega, by simpa using h3⟩
theorem ris_mem {u : Int} : ∀ {p : Int} {l : List Int}, risL u p l = true → ∀ x ∈ l, p < x ∧ x < u
 | _, [], _, x, hx => by cases hx
 | p, y :: t, h, x, hx => by
  rw [risL, Bool.and_eq_true, Bool.and_eq_true] at h
  have h1 : p < y := by simpa using h.1.1
  rcases List.mem_cons.1 hx with rfl | hx
  ·exact ⟨h1, by simpa using h.1.2⟩
  ·have := ris_mem h.2 x hx; exact ⟨by omega, this.2⟩
theorem zcheck_any (An Ad Az : Option Addr) (nn cn nd cd n c : Nat) (ns : List Nd) (ds : List Dv) (z : List Int) (w : World) (hl : Laid w) (hn : Sl w w.heap.size 3 An nn cn (ns.flatMap Nd.cells)) (hd : Sl w w.heap.size 5 Ad nd cd (ds.flatMap Dv.cells)) (hs : Sl w w.heap.size 1 Az n c (intsV z))
 (hsn : ∀ x ∈ ns, x.name.size ≤ 9223372036854775807) (hsd : ∀ x ∈ ds, x.name.size ≤ 9223372036854775807) :
 Calls Tryz.prog 50 #[.agg #[.slice An nn cn, .slice Ad nd cd], .slice Az n c] w fun e w' => e = .returned (.int .i64 (zoneErr ns ds z)) ∧ Below w.heap.size w w' := by
 have HLZ := Lib.hid (hs.len (fun _ => rfl) (by decide))
 have HLN := Lib.hid (hn.len (fun _ => rfl) (by decide))
 have hle := hs.le
 have hln := hn.le
 have HE : Hid (zoneErr ns ds z = if checkN ns ds ≠ 0 then checkN ns ds else if n = 0 then 16 else if risL nn (-1) z = false then 7 else 0) := by unfold Hid zoneErr; rw [HLN.out, HLZ.out]
 have HB : Hid (Below w.heap.size w (w.alloc (.cells #[.slice An nn cn, .slice Ad nd cd] 30))) := (Below.refl _ _).alloc (Nat.le_refl _) _
 have HK := Lib.hid (Blk.new w 30 #[.slice An nn cn, .slice Ad nd cd])
 have HC := Lib.hid (ncheck_any An Ad nn cn nd cd _ _ ns ds (w.alloc (.cells #[.slice An nn cn, .slice Ad nd cd] 30)) (hl.alloc _) (hn.below HB.out (Nat.le_refl _)) (hd.below HB.out (Nat.le_refl _)) HB.out.size HB.out.size hsn hsd)
 have HS := Lib.hid hs
 clear hn hd hs hsn hsd hl
 go_enter Tryz.func50, Tryz.ntmps50
 go_wp2_with fail
 generalize World.alloc w _ = W at *
 refine HC.out.mono ?_
 rintro e w1 ⟨rfl, hb1⟩
 have HB1 := Lib.hid (HB.out.trans (hb1.mono HB.out.size))
 have HK1 := Lib.hid (HK.out.below hb1 HK.out.lt)
 have HS1 := Lib.hid ((HS.out.below HB1.out (Nat.le_refl _)).more HB1.out.size)
 clear hb1 HC HB HK HS
 obtain ⟨er, her⟩ : ∃ x, x = checkN ns ds := ⟨_, rfl⟩
 rw [← her] at HE ⊢
 clear her
 by_cases he : er = 0; rotate_left
 ·have q : (er != 0) = true := by simpa using he
  have HR : Hid (zoneErr ns ds z = er) := by unfold Hid; rw [HE.out, if_pos he]
  clear he HE
  go_wp2_with fail
  go_ret
  exact ⟨ret_int HR.out.symm, HB1.out⟩
 subst he
 rcases Nat.eq_zero_or_pos n with rfl | h0
 ·have HR : Hid (zoneErr ns ds z = 16) := by unfold Hid; rw [HE.out, if_neg (by simp), if_pos rfl]
  clear HE
  go_wp2_with fail
  go_ret
  exact ⟨ret_int HR.out.symm, HB1.out⟩
 have q0 : ((n : Int) == 0) = false := by simp; omega
 have q1 : (n == 0) = false := by simp; omega
 have k0 : w1.cell? ⟨w.heap.size, 0, none⟩ = some (.slice An nn cn) := HK1.out.cell 0
 go_wp2_with fail
 clear k0
 refine (rising_any Az n c w1.heap.size z nn w1 HS1.out).mono ?_
 rintro e w2 ⟨rfl, rfl⟩
 rcases hr : risL nn (-1) z with _ | _
 ·have HR : Hid (zoneErr ns ds z = 7) := by unfold Hid; rw [HE.out, if_neg (by simp), if_neg (by omega), if_pos hr]
  clear HE hr
  go_wp2_with fail
  go_ret
  exact ⟨ret_int HR.out.symm, HB1.out⟩
 ·have HR : Hid (zoneErr ns ds z = 0) := by unfold Hid; rw [HE.out, if_neg (by simp), if_neg (by omega), if_neg (by rw [hr]; simp)]
  clear HE hr
  go_wp2_with fail
  go_ret
  exact ⟨ret_int HR.out.symm, HB1.out⟩
theorem rzcheck_any (An Ad Az : Option Addr) (nn cn nd cd n c : Nat) (ns : List Nd) (ds : List Dv) (z : List Int) (w : World) (hn : Sl w w.heap.size 3 An nn cn (ns.flatMap Nd.cells)) (hd : Sl w w.heap.size 5 Ad nd cd (ds.flatMap Dv.cells)) (hs : Sl w w.heap.size 1 Az n c (intsV z))
 (hsn : ∀ x ∈ ns, x.name.size ≤ 9223372036854775807) (hsd : ∀ x ∈ ds, x.name.size ≤ 9223372036854775807) :
 Calls Tryz.prog 67 #[.agg #[.slice An nn cn, .slice Ad nd cd], .slice Az n c] w fun e w' => e = .returned (.int .i64 (zoneErr ns ds z)) ∧ Below w.heap.size w w' := by
 have HLZ := Lib.hid (hs.len (fun _ => rfl) (by decide))
 have HLN := Lib.hid (hn.len (fun _ => rfl) (by decide))
 have hle := hs.le
 have hln := hn.le
 have HE : Hid (zoneErr ns ds z = if checkN ns ds ≠ 0 then checkN ns ds else if n = 0 then 16 else if risL nn (-1) z = false then 7 else 0) := by unfold Hid zoneErr; rw [HLN.out, HLZ.out]
 have HB : Hid (Below w.heap.size w (w.alloc (.cells #[.slice An nn cn, .slice Ad nd cd] 30))) := (Below.refl _ _).alloc (Nat.le_refl _) _
 have HK := Lib.hid (Blk.new w 30 #[.slice An nn cn, .slice Ad nd cd])
 have HC := Lib.hid (rcheck_any An Ad nn cn nd cd _ _ ns ds (w.alloc (.cells #[.slice An nn cn, .slice Ad nd cd] 30)) (hn.below HB.out (Nat.le_refl _)) (hd.below HB.out (Nat.le_refl _)) HB.out.size HB.out.size hsn hsd)
 have HS := Lib.hid hs
 clear hn hd hs hsn hsd
 go_enter Tryz.func67, Tryz.ntmps67
 go_wp2_with fail
 generalize World.alloc w _ = W at *
 refine HC.out.mono ?_
 rintro e w1 ⟨rfl, hb1⟩
 have HB1 := Lib.hid (HB.out.trans (hb1.mono HB.out.size))
 have HK1 := Lib.hid (HK.out.below hb1 HK.out.lt)
 have HS1 := Lib.hid ((HS.out.below HB1.out (Nat.le_refl _)).more HB1.out.size)
 clear hb1 HC HB HK HS
 obtain ⟨er, her⟩ : ∃ x, x = checkN ns ds := ⟨_, rfl⟩
 rw [← her] at HE ⊢
 clear her
 by_cases he : er = 0; rotate_left
 ·have q : (er != 0) = true := by simpa using he
  have HR : Hid (zoneErr ns ds z = er) := by unfold Hid; rw [HE.out, if_pos he]
  clear he HE
  go_wp2_with fail
  go_ret
  exact ⟨ret_int HR.out.symm, HB1.out⟩
 subst he
 rcases Nat.eq_zero_or_pos n with rfl | h0
 ·have HR : Hid (zoneErr ns ds z = 16) := by unfold Hid; rw [HE.out, if_neg (by simp), if_pos rfl]
  clear HE
  go_wp2_with fail
  go_ret
  exact ⟨ret_int HR.out.symm, HB1.out⟩
 have q0 : ((n : Int) == 0) = false := by simp; omega
 have q1 : (n == 0) = false := by simp; omega
 have k0 : w1.cell? ⟨w.heap.size, 0, none⟩ = some (.slice An nn cn) := HK1.out.cell 0
 go_wp2_with fail
 clear k0
 refine (rset_any Az n c w1.heap.size z nn w1 HS1.out).mono ?_
 rintro e w2 ⟨rfl, q, rfl⟩
 rcases hr : risL nn (-1) z with _ | _
 ·have HR : Hid (zoneErr ns ds z = 7) := by unfold Hid; rw [HE.out, if_neg (by simp), if_neg (by omega), if_pos hr]
  clear HE hr
  go_wp2_with fail
  go_ret
  exact ⟨ret_int HR.out.symm, below_drewN HB1.out q⟩
 ·have HR : Hid (zoneErr ns ds z = 0) := by unfold Hid; rw [HE.out, if_neg (by simp), if_neg (by omega), if_neg (by rw [hr]; simp)]
  clear HE hr
  go_wp2_with fail
  go_ret
  exact ⟨ret_int HR.out.symm, below_drewN HB1.out q⟩
end Go.Proofs.YtepicjpdhpojnaaGreatDoor
