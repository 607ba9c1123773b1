import Derived.Test.YtlcaebfjdhgcfaaDoorZ42
import Derived.Test.YtlcaebfjdhgcfaaDoorZ28
import Derived.Test.YtlcaebfjdhgcfaaDoorZ36
import Derived.Test.YtlcaebfjdhgcfaaDoorZ19
/-
  FieldStuck: its walk.
-/
namespace Go.Proofs.YtlcaebfjdhgcfaaDoor
open Go.RowKit
set_option maxRecDepth 100000 in
set_option maxHeartbeats 16000000 in
theorem walk_FieldStuck (w : World) (hl : Laid w) (A : Option Addr) (n c : Nat) (zs : List Int) (hs : Sl w w.heap.size 1 A n c (intsV zs)) (_hz : ∀ z ∈ zs, (Lit.int .i64 z).wf = true) (dv : Int) (hdv : (Lit.int .u8 dv).wf = true) :
    Calls Tryd.prog 4 #[.slice A n c, .int .u8 dv] w fun e w' => e = .returned (.bool true) ∧ Below w.heap.size w w' := by
  have hdv0 : 0 ≤ dv ∧ dv ≤ 255 := by simp only [Lit.wf, Bool.and_eq_true, decide_eq_true_eq] at hdv; exact hdv
  clear hdv
  obtain ⟨dv, rfl⟩ := Int.eq_ofNat_of_zero_le hdv0.1
  have hnm := hs.le
  have HL0 := Lib.hid hl; have HS0 := Lib.hid hs
  clear hl hs _hz
  go_enter Tryd.func4, Tryd.ntmps4
  go_wp2_with fail
  refine (awake_any w HL0.out).mono ?_
  rintro e w1 ⟨rfl, hb1⟩
  have HB0 := Lib.hid hb1
  have HL := Lib.hid (HL0.out.below hb1 (Nat.le_refl _))
  have HS := Lib.hid (HS0.out.below hb1 (Nat.le_refl _))
  have hsz := hb1.size
  clear hb1 HL0 HS0
  have HF := Lib.hid (few_any A n c w1 (by omega))
  rcases hf : decide (n ≤ 400) with _ | _
  · rw [hf] at HF
    clear hf
    go_wp2_with fail
    refine HF.out.mono ?_
    rintro e w2 ⟨rfl, rfl⟩
    go_wp2_with fail
    refine (awake_any w1 HL.out).mono ?_
    rintro e w2 ⟨rfl, hb⟩
    go_wp2_with fail
    go_ret
    exact ⟨rfl, HB0.out.trans (hb.mono hsz)⟩
  rw [hf] at HF
  clear hf
  go_wp2_with fail
  refine HF.out.mono ?_
  rintro e w2 ⟨rfl, rfl⟩
  clear HF
  go_wp2_with fail
  refine (new_any A n c w.heap.size zs w1 HS.out hsz).mono ?_
  rintro e w2 ⟨rfl, hd2, hb2, hs2⟩
  go_wp2_with fail
  refine (start_any w1.heap.size w2 w1 hd2.out (HL.out.below hb2.out (Nat.le_refl _)) HL.out (Nat.le_refl _)).mono ?_
  rintro e w3 ⟨An, Ad, As, Al, At, cn, nd, cd, n0, c0, nl, cl, nt, ct, ns, ds, F, rfl, hg3, hX3, hF3, hn3, hL3⟩
  have HM4 := Lib.hid (FlM.mk0 hb2.out hs2.out hg3.out hX3.out)
  have HF4 := Lib.hid hF3.out
  have HK4 := Lib.hid hL3.out
  obtain ⟨hnd9, hnd10⟩ := hn3.out
  clear hd2 hb2 hs2 hg3 hX3 hF3 hn3 hL3 HS
  go_upto_region 5 with (fail)
  obtain ⟨nb, hnb⟩ : ∃ x, x = w3.heap.size := ⟨_, rfl⟩
  rw [← hnb] at HM4 ⊢
  clear hnb
  generalize World.alloc (World.alloc w3 _) _ = w4 at *
  have k0 : w4.cell? ⟨nb, 0, none⟩ = some (.slice An 6 cn) := HM4.out.bn.cell 0
  have k1 : w4.cell? ⟨nb, 1, none⟩ = some (.slice Ad nd cd) := HM4.out.bn.cell 1
  have hin : dv % nd < nd := Nat.mod_lt _ (by omega)
  obtain ⟨a, ha⟩ : ∃ a, a = dv % nd := ⟨_, rfl⟩
  have hem : ((dv : Int) % (nd : Int)) = (a : Int) := by rw [ha]; exact (Int.natCast_emod ..).symm
  rw [← ha] at hin
  go_upto_region 6 with (fail)
  rw [hem]
  clear hem ha hdv0
  have kf0 : w4.cell? ⟨nb + 1, 0, none⟩ = some (.slice As n0 c0) := HM4.out.bf.cell 0
  have kf1 : w4.cell? ⟨nb + 1, 1, none⟩ = some (.slice Al nl cl) := HM4.out.bf.cell 1
  have kf2 : w4.cell? ⟨nb + 1, 2, none⟩ = some (.slice At nt ct) := HM4.out.bf.cell 2
  go_wp2_with fail
  clear k0 k1 kf0 kf1 kf2
  have hdl : 0 ≤ (a : Int) ∧ (a : Int) < ds.length := by have h1 := HM4.out.ln; omega
  refine (fstep_any An Ad As Al At 6 cn nd cd n0 c0 nl cl nt ct ns ds F 4 (a : Int) 0 0 w4 HM4.out.x.fdm).mono ?_
  intro e w5 hpost
  have hst := stick_ok HF4.out hdl
  obtain ⟨A1, A2, A3, n1, c1, n2, c2, n3, c3, rfl, hi1, hi2, hi3, hb5⟩ := hpost.ok hst
  have HF5 := Lib.hid (evTo_ok hst)
  have hsa := stick_to (F := F) hdl
  have HY5 := Lib.hid (HM4.out.step hb5.out hi1.out hi2.out hi3.out)
  have HM5 := Lib.hid (HM4.out.later hb5.out)
  have HM6 := Lib.hid (HM5.out.take HL.out HY5.out)
  have d0 := HM5.out.bf.cell 0
  have d1 := HM5.out.bf.cell 1
  have d2 := HM5.out.bf.cell 2
  have y0 := HM5.out.bf.frozen 0
  have y1 := HM5.out.bf.frozen 1
  have y2 := HM5.out.bf.frozen 2
  clear hpost hst hi1 hi2 hi3 hb5 HY5 HM5 HM4 HF4 HK4
  go_upto_region 7 with (fail)
  clear d0 d1 d2 y0 y1 y2
  generalize World.setCell (World.setCell (World.setCell w5 _ _) _ _) _ _ = w6 at *
  generalize evTo ds F 4 (a : Int) 0 0 = F1 at *

  have hn1 : nd = n1 := by have h1 := HM6.out.ln; have h2 := (stateErr_len (fdErr_zero HF5.out).1).2.1; omega
  subst hn1
  obtain ⟨bs, os, pos, hAs, hbs, hsv, hcs⟩ := HM6.out.x.fdm.hs.at1 hin
  subst hAs
  have f0 : w6.cell? ⟨nb + 1, 0, none⟩ = some (.slice (some ⟨bs, os, none⟩) nd c1) := HM6.out.bf.cell 0
  go_upto_region 11 with (fail)
  clear f0 hcs hbs
  have HPP : Hid ((a : Int) ∈ F1.st ∧ F1.s[a]? = some pos) := ⟨hsa, hsv⟩
  clear hsa hsv
  refine wp_loop_u1 [(3, 0), (0, 1), (5, 0), (0, 2), (2, 1), (35, 0), (39, 1), (16, 0)] 11 (20) (FlR w1 nb An Ad cn nd cd ns ds (fun F => (a : Int) ∈ F.st ∧ F.s[a]? = some pos)) (by (try dsimp only [gt]); exact ⟨0, _, _, _, _, _, _, _, _, _, F1, rfl, Nat.zero_le _, rfl, HM6, HF5, HPP⟩) (by kernel_rfl) ?_
  intro u1 p11 gk wr a hrel ha J1 K1 hJ1 hK1
  dsimp only [relaxR, Go.Proofs.YtlcaebfjdhgcfaaDoor.v1, Nat.reduceAdd] at ha
  subst ha
  clear HM6 HF5 HPP w6
  obtain ⟨i, n, c, nl, cl, nt, ct, As, Al, At, F, rfl, hi, rfl, HM, HF, HPF⟩ := hrel
  by_cases hi2 : i < 20; rotate_left
  · obtain rfl : i = 20 := by omega
    have k0 : wr.cell? ⟨nb, 0, none⟩ = some (.slice An 6 cn) := HM.out.bn.cell 0
    have k1 : wr.cell? ⟨nb, 1, none⟩ = some (.slice Ad nd cd) := HM.out.bn.cell 1
    have kf0 : wr.cell? ⟨nb + 1, 0, none⟩ = some (.slice As n c) := HM.out.bf.cell 0
    have kf1 : wr.cell? ⟨nb + 1, 1, none⟩ = some (.slice Al nl cl) := HM.out.bf.cell 1
    have kf2 : wr.cell? ⟨nb + 1, 2, none⟩ = some (.slice At nt ct) := HM.out.bf.cell 2
    go_wp2_with fail
    clear k0 k1 kf0 kf1 kf2
    refine (fstep_any An Ad As Al At 6 cn nd cd n c nl cl nt ct ns ds F 5 (a : Int) 0 0 wr HM.out.x.fdm).mono ?_
    intro e w7 hpost
    have hst := free_ok HF.out hdl
    obtain ⟨B1, B2, B3, m1, d1, m2, d2, m3, d3, rfl, hi1, hi2, hi3, hb5⟩ := hpost.ok hst
    have hnf := free_to (ds := ds) (F := F) (d := (a : Int))
    have HY5 := Lib.hid (HM.out.step hb5.out hi1.out hi2.out hi3.out)
    have HM5 := Lib.hid (HM.out.later hb5.out)
    have HM6 := Lib.hid (HM5.out.take HL.out HY5.out)
    have d0 := HM5.out.bf.cell 0
    have d1 := HM5.out.bf.cell 1
    have d2 := HM5.out.bf.cell 2
    have y0 := HM5.out.bf.frozen 0
    have y1 := HM5.out.bf.frozen 1
    have y2 := HM5.out.bf.frozen 2
    clear hpost hst hi1 hi2 hi3 hb5 HY5 HM5 HM HF HPF
    go_upto_region 21 with (fail)
    clear d0 d1 d2 y0 y1 y2
    generalize World.setCell (World.setCell (World.setCell w7 _ _) _ _) _ _ = w8 at *
    have f2 := HM6.out.bf.cell 2
    go_wp2_with fail
    clear f2
    refine (rhas_any B3 m3 d3 _ (a : Int) w8 HM6.out.x.fdm.ht).mono ?_
    rintro e w9 ⟨rfl, rfl⟩
    rw [decide_eq_false hnf]
    go_wp2_with fail
    go_ret
    exact ⟨rfl, HB0.out.trans (HM6.out.bl.mono hsz)⟩
  have hiI : (i : Int) < 20 := by omega
  have k0 : wr.cell? ⟨nb, 0, none⟩ = some (.slice An 6 cn) := HM.out.bn.cell 0
  have k1 : wr.cell? ⟨nb, 1, none⟩ = some (.slice Ad nd cd) := HM.out.bn.cell 1
  go_wp2_with fail
  clear k0 k1
  refine (event_any w1.heap.size An Ad 6 cn nd cd wr HM.out.x.dk (by omega)).mono ?_
  rintro e w5 ⟨k, d, p, q, rfl, -, hd5, hg5⟩
  have HM5 := Lib.hid (HM.out.grown HL.out hg5.out hd5.out)
  have HE6 := Lib.hid (Blk.new w5 37 #[.int .i64 k, .int .i64 d, .int .i64 p, .int .i64 q])
  have HM6 := Lib.hid (HM5.out.later ((Below.refl _ _).alloc (Nat.le_refl _) (.cells #[.int .i64 k, .int .i64 d, .int .i64 p, .int .i64 q] 37)))
  clear hd5 hg5 HM5
  go_upto_region 14 with (fail)
  obtain ⟨eb, heb⟩ : ∃ x, x = w5.heap.size := ⟨_, rfl⟩
  rw [← heb] at HE6 ⊢
  clear heb
  generalize World.alloc w5 _ = w6 at *
  by_cases hk5 : k = 5 ∧ d = (a : Int)
  · obtain ⟨rfl, rfl⟩ := hk5
    have e0 : w6.cell? ⟨eb, 0, none⟩ = some (.int .i64 5) := HE6.out.cell 0
    have e1 : w6.cell? ⟨eb, 1, none⟩ = some (.int .i64 (a : Int)) := HE6.out.cell 1
    go_wp2_with fail
    refine Handed.intro (20 - (i + 1)) (by omega) (hJ1 _ _ _ (LpI1.back 11 ?_ (by kernel_rfl)))
    dsimp only [gt]
    exact ⟨i + 1, _, _, _, _, _, _, _, _, _, _, by go_num, by omega, rfl, HM6, HF, HPF⟩
  have HK5 := Lib.hid hk5
  have e0 : w6.cell? ⟨eb, 0, none⟩ = some (.int .i64 k) := HE6.out.cell 0
  have e1 : w6.cell? ⟨eb, 1, none⟩ = some (.int .i64 d) := HE6.out.cell 1
  by_cases hk : k = 5
  · have q0 : (d == (a : Int)) = false := by simpa using fun e => hk5 ⟨hk, e⟩
    have q1 : (k == 5) = true := by simpa using hk
    clear hk5 hk
    have k0 : w6.cell? ⟨nb, 0, none⟩ = some (.slice An 6 cn) := HM6.out.bn.cell 0
    have k1 : w6.cell? ⟨nb, 1, none⟩ = some (.slice Ad nd cd) := HM6.out.bn.cell 1
    have kf0 : w6.cell? ⟨nb + 1, 0, none⟩ = some (.slice As n c) := HM6.out.bf.cell 0
    have kf1 : w6.cell? ⟨nb + 1, 1, none⟩ = some (.slice Al nl cl) := HM6.out.bf.cell 1
    have kf2 : w6.cell? ⟨nb + 1, 2, none⟩ = some (.slice At nt ct) := HM6.out.bf.cell 2
    have e0 : w6.cell? ⟨eb, 0, none⟩ = some (.int .i64 k) := HE6.out.cell 0
    have e1 : w6.cell? ⟨eb, 1, none⟩ = some (.int .i64 d) := HE6.out.cell 1
    have e2 : w6.cell? ⟨eb, 2, none⟩ = some (.int .i64 p) := HE6.out.cell 2
    have e3 : w6.cell? ⟨eb, 3, none⟩ = some (.int .i64 q) := HE6.out.cell 3
    go_wp2_with fail
    clear k0 k1 kf0 kf1 kf2 e0 e1 e2 e3 q0
    refine (fstep_any An Ad As Al At 6 cn nd cd n c nl cl nt ct ns ds F k d p q w6 HM6.out.x.fdm).mono ?_
    intro e w7 hpost
    by_cases hE : stpErr ns ds F k d p q = 0; rotate_left
    · obtain ⟨rfl, hb7⟩ := hpost.err hE
      have q0 : (stpErr ns ds F k d p q == 0) = false := by simpa using hE
      have HM8 := Lib.hid ((HM6.out.later hb7.out).later ((Below.refl _ _).alloc (Nat.le_refl _) (.cells #[.slice none 0 0, .slice none 0 0, .slice none 0 0] 33)))
      generalize stpErr ns ds F k d p q = er at *
      clear hpost hE hb7 HM6 HE6 HM HK5
      go_upto_region 18 with (fail)
      clear q0
      generalize World.alloc w7 _ = w8 at *
      have han : a < n := by have h1 := HM8.out.ln; have h2 := (stateErr_len (fdErr_zero HF.out).1).2.1; omega
      obtain ⟨bs2, os2, sv2, hAs2, hbs2, hsv2, hcs2⟩ := HM8.out.x.fdm.hs.at1 han
      obtain rfl : sv2 = pos := by have h1 := HPF.out.2; rw [hsv2] at h1; injection h1
      subst hAs2
      have f0 := HM8.out.bf.cell 0
      have f2 := HM8.out.bf.cell 2
      have q5 : (sv2 != sv2) = false := by simp
      go_wp2_with fail
      clear f0 f2 q5 hcs2 hbs2 hsv2
      refine (rhas_any At nt ct _ (a : Int) w8 HM8.out.x.fdm.ht).mono ?_
      rintro e w10 ⟨rfl, rfl⟩
      rw [decide_eq_true HPF.out.1]
      go_wp2_with fail
      refine Handed.intro (20 - (i + 1)) (by omega) (hJ1 _ _ _ (LpI1.back 11 ?_ (by kernel_rfl)))
      dsimp only [gt]
      exact ⟨i + 1, _, _, _, _, _, _, _, _, _, _, by go_num, by omega, rfl, HM8, HF, HPF⟩
    obtain ⟨B1, B2, B3, m1, d1, m2, d2, m3, d3, rfl, hi1, hi2, hi3, hb7⟩ := hpost.ok hE
    have HFN := Lib.hid (evTo_ok hE)
    have HY := Lib.hid (HM6.out.step hb7.out hi1.out hi2.out hi3.out)
    have hstay := evTo_stays (F := F) (k := k) (p := p) (q := q) (a := a) hE (by omega) HPF.out.1 HK5.out
    have HPN : Hid ((a : Int) ∈ (evTo ds F k d p q).st ∧ (evTo ds F k d p q).s[a]? = some pos) := ⟨hstay.1, hstay.2.trans HPF.out.2⟩
    have HM7 := Lib.hid ((HM6.out.later hb7.out).later ((Below.refl _ _).alloc (Nat.le_refl _) (.cells #[.slice B1 m1 d1, .slice B2 m2 d2, .slice B3 m3 d3] 33)))
    have HB7 := Lib.hid (Blk.new w7 33 #[.slice B1 m1 d1, .slice B2 m2 d2, .slice B3 m3 d3])
    have HY7 := Lib.hid (HY.out.alloc (.cells #[.slice B1 m1 d1, .slice B2 m2 d2, .slice B3 m3 d3] 33))
    clear hpost hE hb7 hi1 hi2 hi3 HY HE6 HM6 HM hstay HK5 HPF HF
    go_upto_region 16 with (fail)
    obtain ⟨xb, hxb⟩ : ∃ x, x = w7.heap.size := ⟨_, rfl⟩
    rw [← hxb] at HB7 ⊢
    clear hxb
    generalize World.alloc w7 _ = w8 at *
    generalize evTo ds F k d p q = F9 at *
    have g0 := HB7.out.cell 0
    have g1 := HB7.out.cell 1
    have g2 := HB7.out.cell 2
    have d0 := HM7.out.bf.cell 0
    have d1 := HM7.out.bf.cell 1
    have d2 := HM7.out.bf.cell 2
    have y0 := HM7.out.bf.frozen 0
    have y1 := HM7.out.bf.frozen 1
    have y2 := HM7.out.bf.frozen 2
    have HM9 := Lib.hid (HM7.out.take HL.out HY7.out)
    clear HY7 HB7 HM7
    go_upto_region 18 with (fail)
    clear g0 g1 g2 d0 d1 d2 y0 y1 y2
    generalize World.setCell (World.setCell (World.setCell w8 _ _) _ _) _ _ = w9 at *
    have han : a < m1 := by have h1 := HM9.out.ln; have h2 := (stateErr_len (fdErr_zero HFN.out).1).2.1; omega
    obtain ⟨bs2, os2, sv2, hAs2, hbs2, hsv2, hcs2⟩ := HM9.out.x.fdm.hs.at1 han
    obtain rfl : sv2 = pos := by have h1 := HPN.out.2; rw [hsv2] at h1; injection h1
    subst hAs2
    have f0 := HM9.out.bf.cell 0
    have f2 := HM9.out.bf.cell 2
    have q5 : (sv2 != sv2) = false := by simp
    go_wp2_with fail
    clear f0 f2 q5 hcs2 hbs2 hsv2
    refine (rhas_any B3 m3 d3 _ (a : Int) w9 HM9.out.x.fdm.ht).mono ?_
    rintro e w10 ⟨rfl, rfl⟩
    rw [decide_eq_true HPN.out.1]
    go_wp2_with fail
    refine Handed.intro (20 - (i + 1)) (by omega) (hJ1 _ _ _ (LpI1.back 11 ?_ (by kernel_rfl)))
    dsimp only [gt]
    exact ⟨i + 1, _, _, _, _, _, _, _, _, _, _, by go_num, by omega, rfl, HM9, HFN, HPN⟩
  have q0 : (k == 5) = false := by simpa using hk
  clear hk5 hk
  have k0 : w6.cell? ⟨nb, 0, none⟩ = some (.slice An 6 cn) := HM6.out.bn.cell 0
  have k1 : w6.cell? ⟨nb, 1, none⟩ = some (.slice Ad nd cd) := HM6.out.bn.cell 1
  have kf0 : w6.cell? ⟨nb + 1, 0, none⟩ = some (.slice As n c) := HM6.out.bf.cell 0
  have kf1 : w6.cell? ⟨nb + 1, 1, none⟩ = some (.slice Al nl cl) := HM6.out.bf.cell 1
  have kf2 : w6.cell? ⟨nb + 1, 2, none⟩ = some (.slice At nt ct) := HM6.out.bf.cell 2
  have e0 : w6.cell? ⟨eb, 0, none⟩ = some (.int .i64 k) := HE6.out.cell 0
  have e1 : w6.cell? ⟨eb, 1, none⟩ = some (.int .i64 d) := HE6.out.cell 1
  have e2 : w6.cell? ⟨eb, 2, none⟩ = some (.int .i64 p) := HE6.out.cell 2
  have e3 : w6.cell? ⟨eb, 3, none⟩ = some (.int .i64 q) := HE6.out.cell 3
  go_wp2_with fail
  clear k0 k1 kf0 kf1 kf2 e0 e1 e2 e3 q0
  refine (fstep_any An Ad As Al At 6 cn nd cd n c nl cl nt ct ns ds F k d p q w6 HM6.out.x.fdm).mono ?_
  intro e w7 hpost
  by_cases hE : stpErr ns ds F k d p q = 0; rotate_left
  · obtain ⟨rfl, hb7⟩ := hpost.err hE
    have q0 : (stpErr ns ds F k d p q == 0) = false := by simpa using hE
    have HM8 := Lib.hid ((HM6.out.later hb7.out).later ((Below.refl _ _).alloc (Nat.le_refl _) (.cells #[.slice none 0 0, .slice none 0 0, .slice none 0 0] 33)))
    generalize stpErr ns ds F k d p q = er at *
    clear hpost hE hb7 HM6 HE6 HM HK5
    go_upto_region 18 with (fail)
    clear q0
    generalize World.alloc w7 _ = w8 at *
    have han : a < n := by have h1 := HM8.out.ln; have h2 := (stateErr_len (fdErr_zero HF.out).1).2.1; omega
    obtain ⟨bs2, os2, sv2, hAs2, hbs2, hsv2, hcs2⟩ := HM8.out.x.fdm.hs.at1 han
    obtain rfl : sv2 = pos := by have h1 := HPF.out.2; rw [hsv2] at h1; injection h1
    subst hAs2
    have f0 := HM8.out.bf.cell 0
    have f2 := HM8.out.bf.cell 2
    have q5 : (sv2 != sv2) = false := by simp
    go_wp2_with fail
    clear f0 f2 q5 hcs2 hbs2 hsv2
    refine (rhas_any At nt ct _ (a : Int) w8 HM8.out.x.fdm.ht).mono ?_
    rintro e w10 ⟨rfl, rfl⟩
    rw [decide_eq_true HPF.out.1]
    go_wp2_with fail
    refine Handed.intro (20 - (i + 1)) (by omega) (hJ1 _ _ _ (LpI1.back 11 ?_ (by kernel_rfl)))
    dsimp only [gt]
    exact ⟨i + 1, _, _, _, _, _, _, _, _, _, _, by go_num, by omega, rfl, HM8, HF, HPF⟩
  obtain ⟨B1, B2, B3, m1, d1, m2, d2, m3, d3, rfl, hi1, hi2, hi3, hb7⟩ := hpost.ok hE
  have HFN := Lib.hid (evTo_ok hE)
  have HY := Lib.hid (HM6.out.step hb7.out hi1.out hi2.out hi3.out)
  have hstay := evTo_stays (F := F) (k := k) (p := p) (q := q) (a := a) hE (by omega) HPF.out.1 HK5.out
  have HPN : Hid ((a : Int) ∈ (evTo ds F k d p q).st ∧ (evTo ds F k d p q).s[a]? = some pos) := ⟨hstay.1, hstay.2.trans HPF.out.2⟩
  have HM7 := Lib.hid ((HM6.out.later hb7.out).later ((Below.refl _ _).alloc (Nat.le_refl _) (.cells #[.slice B1 m1 d1, .slice B2 m2 d2, .slice B3 m3 d3] 33)))
  have HB7 := Lib.hid (Blk.new w7 33 #[.slice B1 m1 d1, .slice B2 m2 d2, .slice B3 m3 d3])
  have HY7 := Lib.hid (HY.out.alloc (.cells #[.slice B1 m1 d1, .slice B2 m2 d2, .slice B3 m3 d3] 33))
  clear hpost hE hb7 hi1 hi2 hi3 HY HE6 HM6 HM hstay HK5 HPF HF
  go_upto_region 16 with (fail)
  obtain ⟨xb, hxb⟩ : ∃ x, x = w7.heap.size := ⟨_, rfl⟩
  rw [← hxb] at HB7 ⊢
  clear hxb
  generalize World.alloc w7 _ = w8 at *
  generalize evTo ds F k d p q = F9 at *
  have g0 := HB7.out.cell 0
  have g1 := HB7.out.cell 1
  have g2 := HB7.out.cell 2
  have d0 := HM7.out.bf.cell 0
  have d1 := HM7.out.bf.cell 1
  have d2 := HM7.out.bf.cell 2
  have y0 := HM7.out.bf.frozen 0
  have y1 := HM7.out.bf.frozen 1
  have y2 := HM7.out.bf.frozen 2
  have HM9 := Lib.hid (HM7.out.take HL.out HY7.out)
  clear HY7 HB7 HM7
  go_upto_region 18 with (fail)
  clear g0 g1 g2 d0 d1 d2 y0 y1 y2
  generalize World.setCell (World.setCell (World.setCell w8 _ _) _ _) _ _ = w9 at *
  have han : a < m1 := by have h1 := HM9.out.ln; have h2 := (stateErr_len (fdErr_zero HFN.out).1).2.1; omega
  obtain ⟨bs2, os2, sv2, hAs2, hbs2, hsv2, hcs2⟩ := HM9.out.x.fdm.hs.at1 han
  obtain rfl : sv2 = pos := by have h1 := HPN.out.2; rw [hsv2] at h1; injection h1
  subst hAs2
  have f0 := HM9.out.bf.cell 0
  have f2 := HM9.out.bf.cell 2
  have q5 : (sv2 != sv2) = false := by simp
  go_wp2_with fail
  clear f0 f2 q5 hcs2 hbs2 hsv2
  refine (rhas_any B3 m3 d3 _ (a : Int) w9 HM9.out.x.fdm.ht).mono ?_
  rintro e w10 ⟨rfl, rfl⟩
  rw [decide_eq_true HPN.out.1]
  go_wp2_with fail
  refine Handed.intro (20 - (i + 1)) (by omega) (hJ1 _ _ _ (LpI1.back 11 ?_ (by kernel_rfl)))
  dsimp only [gt]
  exact ⟨i + 1, _, _, _, _, _, _, _, _, _, _, by go_num, by omega, rfl, HM9, HFN, HPN⟩
end Go.Proofs.YtlcaebfjdhgcfaaDoor
