import Derived.Test.YtfaknfmndafllaaGreatDoorV30
import Derived.Test.YtfaknfmndafllaaGreatDoorV17
import Derived.Test.YtfaknfmndafllaaGreatDoorV12
import Derived.Test.YtfaknfmndafllaaGreatDoorV04
import Derived.Deep.DeepCutAuto
set_option maxRecDepth 100000
set_option maxHeartbeats 16000000
namespace Go.Proofs.YtfaknfmndafllaaGreatDoor
open Go.RowKit
def gI (l : List Int) (k : Nat) : Int := l.getD k 0
theorem ints_cell {w : World} {base n c i g : Nat} {l : List Int} (h : IntsO w base (some ⟨g, 0, none⟩) n c l) (hi : i < n) : w.cell? ⟨g, i, none⟩ = some (.int .i64 (gI l i)) := by
 obtain ⟨g', x, e, _, _, hx, hc, _⟩ := h.at hi
 injection e with e; injection e with e; subst e
 unfold gI
 rw [List.getD_eq_getElem?_getD, hx]; exact hc
section
variable {kd a b : Int} {ns : List Nd} {parts op cl : List Int}
theorem dutyV_fault (h : faultB kd a b cl = true) : dutyV kd a b ns parts op cl = 4 := by unfold dutyV; rw [if_pos h]
theorem dutyV_off (hf : faultB kd a b cl = false) (h : sOk kd a b parts = false) : dutyV kd a b ns parts op cl = 0 := by
 unfold dutyV parB loadB dOk; rw [hf, h]; simp
theorem dutyV_par (hf : faultB kd a b cl = false) (h : sOk kd a b parts = true) (h0 : sL0 kd a op = true) (h1 : sL1 kd a b op = true) : dutyV kd a b ns parts op cl = 3 := by
 unfold dutyV parB; rw [hf, h, h0, h1]; rfl
theorem dutyV_none (hf : faultB kd a b cl = false) (h0 : sL0 kd a op = false) (h1 : sL1 kd a b op = false) : dutyV kd a b ns parts op cl = 0 := by
 unfold dutyV parB loadB dOk; rw [hf, h0, h1]; simp
theorem dutyV_load (hf : faultB kd a b cl = false) (h : sOk kd a b parts = true) (h0 : sL0 kd a op ≠ sL1 kd a b op) (hl : loadTo kd a b ns parts op ns.length) : dutyV kd a b ns parts op cl = 2 := by
 have hd : dOk kd a b parts op = true := by unfold dOk; rw [h]; simpa using h0
 have hp : parB kd a b parts op = false := by unfold parB; rw [h]; revert h0; cases sL0 kd a op <;> cases sL1 kd a b op <;> simp
 have hl2 : loadB kd a b ns parts op = true := by unfold loadB; rw [hd]; simpa using hl
 unfold dutyV; rw [hf, hp, hl2]; rfl
theorem dutyV_chg (hf : faultB kd a b cl = false) (h : sOk kd a b parts = true) (h0 : sL0 kd a op ≠ sL1 kd a b op) (hl : ¬ loadTo kd a b ns parts op ns.length) : dutyV kd a b ns parts op cl = 1 := by
 have hd : dOk kd a b parts op = true := by unfold dOk; rw [h]; simpa using h0
 have hp : parB kd a b parts op = false := by unfold parB; rw [h]; revert h0; cases sL0 kd a op <;> cases sL1 kd a b op <;> simp
 have hl2 : loadB kd a b ns parts op = false := by unfold loadB; rw [hd]; simpa using hl
 unfold dutyV; rw [hf, hp, hl2, hd]; rfl
end
def RofR (w : World) (ns : List Nd) (P : List Int) (dv : Int) (gk : Nat) (iv : Value) (wr : World) : Prop := ∃ v : Nat, iv = .int .i64 v ∧ v ≤ ns.length ∧ gk = ns.length - v ∧ wr = w ∧ Hid (¬ ∃ (i : Nat) (x : Nd), i < v ∧ ns[i]? = some x ∧ 0 < x.cust ∧ gI P i = dv)
theorem rOf_ok (An Ad As : Option Addr) (nn cn nd cd n c i : Nat) (ns : List Nd) (ds : List Dv) (s : List Int) (x : Dv) (w : World) (h : HzMem w An Ad As none none nn cn nd cd n c 0 0 0 0 ns ds s [] []) (h0 : stateErr ns ds s = 0) (hx : ds[i]? = some x) :
 Calls Tryz.prog 124 #[.agg #[.slice An nn cn, .slice Ad nd cd], .slice As n c, .int .i64 i] w fun e w' => e = .returned (.tuple #[.int .i64 (dutyAt nn ns ds s i x), .int .i64 0]) ∧ Below w.heap.size w w' := by
 obtain ⟨hln, hld, hls⟩ := h.ln
 subst hln
 have hN := NetOk.of (stateErr_net h0).1
 have hsl := (stateErr_net h0).2
 have hxm := List.mem_of_getElem? hx
 have ha0 := hN.a x hxm
 have hk0 := hN.k x hxm
 have hb0 : joinsB x.kind = true → 0 ≤ x.b ∧ x.b < ns.length := fun hj => (hN.e x hxm hj).2
 have hi : i < nd := by have := (List.getElem?_eq_some_iff.1 hx).1; omega
 have hnl := hN.nl
 have hdl := hN.dl
 have HN := Lib.hid hN
 have HLS := Lib.hid hls
 have hndn : nd ≤ n ∧ n ≤ nd := by omega
 have HB : Hid (Below w.heap.size w (w.alloc (.cells #[.slice An ns.length cn, .slice Ad nd cd] 30))) := (Below.refl _ _).alloc (Nat.le_refl _) _
 have HK := Lib.hid (Blk.new w 30 #[.slice An ns.length cn, .slice Ad nd cd])
 have HH := Lib.hid h
 have HX := Lib.hid hx
 have H0 := Lib.hid h0
 clear h hN hxm hx h0 hsl hls
 go_enter Tryz.func124, Tryz.ntmps124
 go_wp2_with fail
 generalize World.alloc w _ = W at *
 have HM := Lib.hid (HH.out.below HB.out)
 have HC := Lib.hid (rstate_any An Ad As ns.length cn nd cd n c _ _ _ ns ds s W HM.out.hn HM.out.hd HM.out.hs (Nat.le_refl _) (Nat.le_refl _) (Nat.le_refl _) HM.out.sn HM.out.sd)
 rw [H0.out] at HC
 refine HC.out.mono ?_
 rintro e w1 ⟨rfl, hb1⟩
 have HB1 := Lib.hid (HB.out.trans (hb1.mono HB.out.size))
 have HK1 := Lib.hid (HK.out.below hb1 HK.out.lt)
 clear HC HM hb1 HB HK
 obtain ⟨b0, off, x', rfl, hb, hx', hc⟩ := (HH.out.below HB1.out).hd.at (k := i) (fun _ => rfl) (by decide) hi
 obtain rfl : x = x' := by have := HX.out; rw [this] at hx'; exact Option.some.inj hx'
 obtain ⟨nm, kd, a, b, co⟩ := x
 simp only at ha0 hb0 hk0
 obtain ⟨a, rfl⟩ := Int.eq_ofNat_of_zero_le ha0.1
 have han : a < ns.length := by omega
 have q1 : decide ((i : Int) < 0) = false := by simp
 have q2 : decide ((n : Int) ≤ (i : Int)) = false := by simp; omega
 have c0 : w1.cell? ⟨b0, off + i * 5, none⟩ = some (.string nm) := hc 0 _ rfl
 have c1 : w1.cell? ⟨b0, off + i * 5 + 1, none⟩ = some (.int .i64 kd) := hc 1 _ rfl
 have c2 : w1.cell? ⟨b0, off + i * 5 + 2, none⟩ = some (.int .i64 a) := hc 2 _ rfl
 have c3 : w1.cell? ⟨b0, off + i * 5 + 3, none⟩ = some (.int .i64 b) := hc 3 _ rfl
 have c4 : w1.cell? ⟨b0, off + i * 5 + 4, none⟩ = some (.int .i64 co) := hc 4 _ rfl
 have k0 := HK1.out.c0
 have k1 := HK1.out.c1
 clear hc hx' ha0
 go_upto_region 7 with (fail)
 clear c0 c1 c2 c3 c4 k0 k1 q1 q2
 have HKD := Lib.hid (Blk.new w1 68 #[.string nm, .int .i64 kd, .int .i64 a, .int .i64 b, .int .i64 co])
 have HB2 := Lib.hid (HB1.out.alloc HB1.out.size (.cells #[.string nm, .int .i64 kd, .int .i64 a, .int .i64 b, .int .i64 co] 68))
 have HK2 := Lib.hid (HK1.out.alloc (.cells #[.string nm, .int .i64 kd, .int .i64 a, .int .i64 b, .int .i64 co] 68))
 generalize World.alloc w1 _ = w2 at *
 obtain ⟨db, hdb⟩ : ∃ x, x = w1.heap.size := ⟨_, rfl⟩
 rw [← hdb] at HKD ⊢
 clear hdb HB1 HK1 hb
 have HM2 := Lib.hid (HH.out.below HB2.out.drew)
 refine wp_region_J (S := fun W' => W'.cell? ⟨w.heap.size, 0, none⟩ = some (.slice An ns.length cn) ∧ W'.cell? ⟨w.heap.size, 1, none⟩ = some (.slice (some ⟨b0, off, none⟩) nd cd)) (J := []) (by kernel_rfl) ?_ (fun hHeld => ?_)
 ·exact ⟨HK2.out.cell 0, HK2.out.cell 1⟩
 try dsimp only at hHeld
 refine tk 0 41 (mf 10 1) hHeld ?_
 refine tk 1 42 (mf 10 2) hHeld ?_
 refine tk 2 43 (mf 10 3) hHeld ?_
 refine wpAnyJ_oneL (k := 3) (mf 10 4) (by kernel_rfl) (by kernel_rfl) rfl (fun K hK => ?_)
 (go_simp; refine (rwith_any As n c w2.drew.heap.size s i 2 w2.drew HM2.out.hs (Nat.le_refl _) (by omega)).mono ?_; rintro e w3 ⟨Aw, cw, rfl, hOw, hb3⟩; rw [withL_len, HLS.out] at hOw ⊢; have HM3 := Lib.hid (HM2.out.below hb3.out); have HB3 := Lib.hid (HB2.out.drew.trans (hb3.out.mono HB2.out.drew.size)); have HK3 := Lib.hid (Blk.below (w := w2.drew) HK2.out hb3.out HK2.out.lt); have HD3 := Lib.hid (Blk.below (w := w2.drew) HKD.out hb3.out HKD.out.lt); go_simp)
 refine hK.out _ _ (fun _ => ?_) (fun hHeld' => ?_)
 ·exact ⟨HK3.out.cell 0, HK3.out.cell 1⟩
 replace hHeld := hHeld' rfl
 clear hHeld' hK K
 try dsimp only at hHeld
 refine wpAnyJ_oneL (k := 4) (mf 10 5) (by kernel_rfl) (by kernel_rfl) rfl (fun K hK => ?_)
 (go_simp; refine (rcols_any An (some ⟨b0, off, none⟩) Aw ns.length cn nd cd n cw w3.heap.size w3.heap.size w3.heap.size ns ds (withL s i 2) w3 HM3.out.hn HM3.out.hd hOw.out.sl (Nat.le_refl _) (Nat.le_refl _) (Nat.le_refl _) HM3.out.sn HM3.out.sd (by omega) (fun _ => ⟨by omega, HN.out.e, HN.out.ne⟩) (fun _ => ⟨HN.out.a, HN.out.k⟩)).mono ?_; (rintro e w4 ⟨hb4, ⟨hne, -⟩ | ⟨-, AC, CL, rfl, hOC, hIC⟩⟩; exact absurd (stateErr_with H0.out i (p := 2) (Or.inr rfl)) hne); have HB4 := Lib.hid (HB3.out.trans (hb4.out.mono HB3.out.size)); have HK4 := Lib.hid (HK3.out.below hb4.out HK3.out.lt); have HD4 := Lib.hid (HD3.out.below hb4.out HD3.out.lt); go_simp)
 refine hK.out _ _ (fun _ => ?_) (fun hHeld' => ?_)
 ·exact ⟨HK4.out.cell 0, HK4.out.cell 1⟩
 replace hHeld := hHeld' rfl
 clear hHeld' hK K
 try dsimp only at hHeld
 refine tk 5 40 (mf 10 6) hHeld ?_
 refine tk 6 46 (mf 10 7) hHeld ?_
 refine tk 7 47 (mf 10 8) hHeld ?_
 refine tk 8 10 (mf 10 9) hHeld ?_
 refine tk 9 11 (mf 10 10) hHeld ?_
 refine wpAnyJ_done (by kernel_rfl) ?_ _
 have HDV : Hid (dutyAt ns.length ns ds s i ⟨nm, kd, a, b, co⟩ = dutyV kd a b ns (partsOf ns.length ds (withL s i 1)) (colsOf ns.length ds (withL s i 1)) CL) := by unfold Hid dutyAt; rw [colsOf_eq hIC.out]
 obtain ⟨g, rfl, -, hg⟩ := own_some hOC.out (by omega)
 have hCa := ints_cell hOC.out han
 have HCB : Hid (∀ k, k < ns.length → w4.cell? ⟨g, k, none⟩ = some (.int .i64 (gI CL k))) := fun k hk => ints_cell hOC.out hk
 have HRJ := Lib.hid (rjoins_any kd)
 have d1 := HD4.out.c1
 have d2 := HD4.out.c2
 have HFE : Hid (faultB kd a b CL = ((gI CL a == 3) || (joinsB kd && (gI CL b.toNat == 3)))) := rfl
 clear HKD HK2 HB2 HM2 HM3 HB3 HK3 HD3 hb3 hb4 hOw hIC hOC
 rcases hq : (gI CL a == 3) with _ | _; rotate_left
 ·have HF : Hid (faultB kd a b CL = true) := by unfold Hid; rw [HFE.out, hq]; rfl
  go_wp2_with fail
  go_ret2
  exact ⟨by rw [HDV.out, dutyV_fault HF.out]; rfl, HB4.out⟩
 rw [hq] at HFE
 rcases hj : joinsB kd with _ | _
 ·have HF : Hid (faultB kd a b CL = false) := by unfold Hid; rw [HFE.out, hj]; rfl
  have HJ0 := Lib.hid hj
  rw [hj] at HRJ
  clear HFE hb0
  go_wp2_with fail
  refine (HRJ.out w4).mono ?_
  rintro e w4 ⟨rfl, rfl⟩
  rcases hk4 : (kd == 4) with _ | _; rotate_left
  ·have HOK : Hid (sOk kd a b (partsOf ns.length ds (withL s i 1)) = false) := by unfold Hid sOk; rw [if_pos (by simpa using hk4)]
   go_wp2_with fail
   go_ret2
   exact ⟨by rw [HDV.out, dutyV_off HF.out HOK.out]; rfl, HB4.out⟩
  have hkn : kd ≠ 4 := by simpa using hk4
  have HKN := Lib.hid hkn
  clear hkn
  have k0 := HK4.out.c0
  have k1 := HK4.out.c1
  go_wp2_with fail
  clear k0 k1 d1 d2 hCa
  have HM4 := Lib.hid (HH.out.below HB4.out)
  refine (rwith_any As n c w4.heap.size s i 1 w4 HM4.out.hs (Nat.le_refl _) (by omega)).mono ?_
  rintro e w5 ⟨Aw2, cw2, rfl, hOw, hb5⟩
  rw [withL_len, HLS.out] at hOw ⊢
  have HM5 := Lib.hid (HM4.out.below hb5.out)
  have HB5 := Lib.hid (HB4.out.trans (hb5.out.mono HB4.out.size))
  have HK5 := Lib.hid (HK4.out.below hb5.out HK4.out.lt)
  have HD5 := Lib.hid (HD4.out.below hb5.out HD4.out.lt)
  have HS5 : Hid (Sl w5 w5.heap.size 1 Aw2 n cw2 (intsV (withL s i 1))) := hOw.out.sl
  clear hOw hb5 HM4 HB4 HK4 HD4 HCB
  have k0 := HK5.out.c0
  have k1 := HK5.out.c1
  go_wp2_with fail
  clear k0 k1
  refine (rcols_any An (some ⟨b0, off, none⟩) Aw2 ns.length cn nd cd n cw2 w5.heap.size w5.heap.size w5.heap.size ns ds (withL s i 1) w5 HM5.out.hn HM5.out.hd HS5.out (Nat.le_refl _) (Nat.le_refl _) (Nat.le_refl _) HM5.out.sn HM5.out.sd (by omega) (fun _ => ⟨by omega, HN.out.e, HN.out.ne⟩) (fun _ => ⟨HN.out.a, HN.out.k⟩)).mono ?_
  (rintro e w6 ⟨hb6, ⟨hne, -⟩ | ⟨-, AO, OP, rfl, hOO, hIO⟩⟩; exact absurd (stateErr_with H0.out i (p := 1) (Or.inl rfl)) hne)
  have HM6 := Lib.hid (HM5.out.below hb6.out)
  have HB6 := Lib.hid (HB5.out.trans (hb6.out.mono HB5.out.size))
  have HK6 := Lib.hid (HK5.out.below hb6.out HK5.out.lt)
  have HD6 := Lib.hid (HD5.out.below hb6.out HD5.out.lt)
  have HS6 := Lib.hid ((HS5.out.below hb6.out (Nat.le_refl _)).more hb6.out.size)
  rw [colsOf_eq hIO.out] at HDV
  clear hb6 hIO HM5 HB5 HK5 HD5 HS5
  have k0 := HK6.out.c0
  have k1 := HK6.out.c1
  go_wp2_with fail
  clear k0 k1
  refine (rparts_any An (some ⟨b0, off, none⟩) Aw2 ns.length cn nd cd n cw2 w6.heap.size w6.heap.size w6.heap.size ns ds (withL s i 1) w6 HM6.out.hn HM6.out.hd HS6.out (Nat.le_refl _) (Nat.le_refl _) (Nat.le_refl _) HM6.out.sn HM6.out.sd (by omega) (fun _ => ⟨by omega, HN.out.e, HN.out.ne⟩)).mono ?_
  (rintro e w7 ⟨hb7, ⟨hne, -⟩ | ⟨-, AP, PL, rfl, hOP, hIP⟩⟩; exact absurd (stateErr_with H0.out i (p := 1) (Or.inl rfl)) hne)
  have HN7 := Lib.hid ((HM6.out.below hb7.out).hn)
  have HB7 := Lib.hid (HB6.out.trans (hb7.out.mono HB6.out.size))
  have HK7 := Lib.hid (HK6.out.below hb7.out HK6.out.lt)
  have HD7 := Lib.hid (HD6.out.below hb7.out HD6.out.lt)
  have HOO := Lib.hid (hOO.out.later hb7.out)
  rw [partsOf_eq hIP.out] at HDV
  clear hb7 hIP HM6 HB6 HK6 HD6 HS6 hOO HN
  obtain ⟨go, rfl, -, hgo⟩ := own_some HOO.out (by omega)
  obtain ⟨gp, rfl, -, hgp⟩ := own_some hOP.out (by omega)
  have oa := ints_cell HOO.out han
  have pa := ints_cell hOP.out han
  have d1 := HD7.out.c1
  have d2 := HD7.out.c2
  have HPC : Hid (∀ k, k < ns.length → w7.cell? ⟨gp, k, none⟩ = some (.int .i64 (gI PL k))) := fun k hk => ints_cell hOP.out hk
  have hLA : lvB OP a = (bits BinOp.and IntKind.i64 (gI OP a) 1 != 0) := rfl
  have HOK : Hid (sOk kd a b PL = true) := by unfold Hid sOk; rw [if_neg HKN.out, if_pos HJ0.out]
  have HL0 : Hid (sL0 kd a OP = true) := by unfold Hid sL0; rw [if_neg HKN.out, if_pos HJ0.out]
  have HL1 : Hid (sL1 kd a b OP = lvB OP a) := by unfold Hid sL1; rw [if_neg HKN.out, if_pos HJ0.out]
  clear hj hOP HOO
  rcases hl : (bits BinOp.and IntKind.i64 (gI OP a) 1 != 0) with _ | _; rotate_left
  ·rw [hLA, hl] at HL1
   clear hLA
   go_wp2_with fail
   refine (HRJ.out w7).mono ?_
   rintro e w7 ⟨rfl, rfl⟩
   go_wp2_with fail
   go_ret2
   exact ⟨by rw [HDV.out, dutyV_par HF.out HOK.out HL0.out HL1.out]; rfl, HB7.out⟩
  rw [hLA, hl] at HL1
  have HNE : Hid (sL0 kd a OP ≠ sL1 kd a b OP) := by unfold Hid; rw [HL0.out, HL1.out]; simp
  clear hLA
  go_wp2_with fail
  refine (HRJ.out w7).mono ?_
  rintro e w7 ⟨rfl, rfl⟩
  have HLT : Hid (loadTo kd a b ns PL OP ns.length ↔ ∃ (i : Nat) (x : Nd), i < ns.length ∧ ns[i]? = some x ∧ 0 < x.cust ∧ gI PL i = gI PL a) := by
   have hdn : dN kd a b PL OP = (a : Int) := by unfold dN dOk; rw [HOK.out, if_pos (by simpa using HNE.out), if_pos HL0.out]; unfold sN1; rw [if_neg HKN.out, if_pos HJ0.out]
   unfold Hid loadTo
   rw [hdn]
   rfl
  clear d1 d2
  go_wp2_with fail
  go_loopg [20] ns.length (RofR w7 ns PL (gI PL a))
  case atStart => exact ⟨0, rfl, Nat.zero_le _, rfl, rfl, fun ⟨i, x, h, _⟩ => by omega⟩
  case round =>
   obtain ⟨v, rfl, hv, rfl, rfl, hno⟩ := hrel
   by_cases hvt : v < ns.length
   ·obtain ⟨nb0, noff, y, hAn, hnb, hy, hny⟩ := HN7.out.at (k := v) (fun _ => rfl) (by decide) hvt
    have HY := Lib.hid hy
    have hAn2 := HK7.out.cell 0
    rw [hAn] at hAn2
    have k0 : wr.cell? ⟨w.heap.size, 0, none⟩ = some (.slice (some ⟨nb0, noff, none⟩) ns.length cn) := hAn2
    have y1 : wr.cell? ⟨nb0, noff + v * 3 + 1, none⟩ = some (.int .i64 y.cust) := hny 1 _ rfl
    have pv := HPC.out v hvt
    have HAN := Lib.hid hAn
    clear hy hny hAn hAn2
    rcases hq1 : (gI PL v == gI PL a) with _ | _
    ·have HNO : Hid (¬ ∃ (i : Nat) (x : Nd), i < v + 1 ∧ ns[i]? = some x ∧ 0 < x.cust ∧ gI PL i = gI PL a) := fun ⟨i, x, h1, h2, h3, h4⟩ => by
      rcases Nat.lt_succ_iff_lt_or_eq.1 h1 with h | rfl
      ·exact hno.out ⟨i, x, h, h2, h3, h4⟩
      ·rw [h4] at hq1; simp at hq1
     go_wp2_with fail
     go_roundg (ns.length - (v + 1))
     case rel => exact ⟨v + 1, by go_num, by omega, rfl, rfl, HNO⟩
     case measure => omega
    by_cases hcu : 0 < y.cust
    ·have q3 : decide (0 < y.cust) = true := by simpa using hcu
     have HLD := Lib.hid (HLT.out.2 ⟨v, y, hvt, HY.out, hcu, by simpa using hq1⟩)
     clear hcu
     go_wp2_with fail
     go_ret2
     exact ⟨by rw [HDV.out, dutyV_load HF.out HOK.out HNE.out HLD.out]; rfl, HB7.out⟩
    ·have q3 : decide (0 < y.cust) = false := by simpa using hcu
     have HNO : Hid (¬ ∃ (i : Nat) (x : Nd), i < v + 1 ∧ ns[i]? = some x ∧ 0 < x.cust ∧ gI PL i = gI PL a) := fun ⟨i, x, h1, h2, h3, h4⟩ => by
      rcases Nat.lt_succ_iff_lt_or_eq.1 h1 with h | rfl
      ·exact hno.out ⟨i, x, h, h2, h3, h4⟩
      ·rw [HY.out] at h2; injection h2 with h2; subst h2; exact hcu h3
     clear hcu
     go_wp2_with fail
     go_roundg (ns.length - (v + 1))
     case rel => exact ⟨v + 1, by go_num, by omega, rfl, rfl, HNO⟩
     case measure => omega
   ·obtain rfl : v = ns.length := by omega
    have hii : decide (ns.length < ns.length) = false := by simp
    have HNL := Lib.hid (fun h => hno.out (HLT.out.1 h))
    go_wp2_with fail
    go_ret2
    exact ⟨by rw [HDV.out, dutyV_chg HF.out HOK.out HNE.out HNL.out]; rfl, HB7.out⟩
 ·obtain ⟨b, rfl⟩ := Int.eq_ofNat_of_zero_le (hb0 hj).1
  have hbn : b < ns.length := by have := (hb0 hj).2; omega
  have hCb := HCB.out b hbn
  have d3 := HD4.out.c3
  have HJ0 := Lib.hid hj
  rw [hj] at HRJ HFE
  clear hb0
  rcases hq2 : (gI CL b == 3) with _ | _; rotate_left
  ·have HF : Hid (faultB kd a b CL = true) := by unfold Hid; rw [HFE.out, Int.toNat_natCast, hq2]; rfl
   clear HFE
   go_wp2_with fail
   refine (HRJ.out w4).mono ?_
   rintro e w4 ⟨rfl, rfl⟩
   go_wp2_with fail
   go_ret2
   exact ⟨by rw [HDV.out, dutyV_fault HF.out]; rfl, HB4.out⟩
  have HF : Hid (faultB kd a b CL = false) := by unfold Hid; rw [HFE.out, Int.toNat_natCast, hq2]; rfl
  have HKN : Hid (kd ≠ 4) := fun e => by subst e; exact absurd HJ0.out (by decide)
  have hk4 : (kd == 4) = false := by simpa using HKN.out
  clear HFE
  go_wp2_with fail
  refine (HRJ.out w4).mono ?_
  rintro e w4 ⟨rfl, rfl⟩
  have k0 := HK4.out.c0
  have k1 := HK4.out.c1
  go_wp2_with fail
  clear k0 k1 d1 d2 d3 hCa hCb
  have HM4 := Lib.hid (HH.out.below HB4.out)
  refine (rwith_any As n c w4.heap.size s i 1 w4 HM4.out.hs (Nat.le_refl _) (by omega)).mono ?_
  rintro e w5 ⟨Aw2, cw2, rfl, hOw, hb5⟩
  rw [withL_len, HLS.out] at hOw ⊢
  have HM5 := Lib.hid (HM4.out.below hb5.out)
  have HB5 := Lib.hid (HB4.out.trans (hb5.out.mono HB4.out.size))
  have HK5 := Lib.hid (HK4.out.below hb5.out HK4.out.lt)
  have HD5 := Lib.hid (HD4.out.below hb5.out HD4.out.lt)
  have HS5 : Hid (Sl w5 w5.heap.size 1 Aw2 n cw2 (intsV (withL s i 1))) := hOw.out.sl
  clear hOw hb5 HM4 HB4 HK4 HD4 HCB
  have k0 := HK5.out.c0
  have k1 := HK5.out.c1
  go_wp2_with fail
  clear k0 k1
  refine (rcols_any An (some ⟨b0, off, none⟩) Aw2 ns.length cn nd cd n cw2 w5.heap.size w5.heap.size w5.heap.size ns ds (withL s i 1) w5 HM5.out.hn HM5.out.hd HS5.out (Nat.le_refl _) (Nat.le_refl _) (Nat.le_refl _) HM5.out.sn HM5.out.sd (by omega) (fun _ => ⟨by omega, HN.out.e, HN.out.ne⟩) (fun _ => ⟨HN.out.a, HN.out.k⟩)).mono ?_
  (rintro e w6 ⟨hb6, ⟨hne, -⟩ | ⟨-, AO, OP, rfl, hOO, hIO⟩⟩; exact absurd (stateErr_with H0.out i (p := 1) (Or.inl rfl)) hne)
  have HM6 := Lib.hid (HM5.out.below hb6.out)
  have HB6 := Lib.hid (HB5.out.trans (hb6.out.mono HB5.out.size))
  have HK6 := Lib.hid (HK5.out.below hb6.out HK5.out.lt)
  have HD6 := Lib.hid (HD5.out.below hb6.out HD5.out.lt)
  have HS6 := Lib.hid ((HS5.out.below hb6.out (Nat.le_refl _)).more hb6.out.size)
  rw [colsOf_eq hIO.out] at HDV
  clear hb6 hIO HM5 HB5 HK5 HD5 HS5
  have k0 := HK6.out.c0
  have k1 := HK6.out.c1
  go_wp2_with fail
  clear k0 k1
  refine (rparts_any An (some ⟨b0, off, none⟩) Aw2 ns.length cn nd cd n cw2 w6.heap.size w6.heap.size w6.heap.size ns ds (withL s i 1) w6 HM6.out.hn HM6.out.hd HS6.out (Nat.le_refl _) (Nat.le_refl _) (Nat.le_refl _) HM6.out.sn HM6.out.sd (by omega) (fun _ => ⟨by omega, HN.out.e, HN.out.ne⟩)).mono ?_
  (rintro e w7 ⟨hb7, ⟨hne, -⟩ | ⟨-, AP, PL, rfl, hOP, hIP⟩⟩; exact absurd (stateErr_with H0.out i (p := 1) (Or.inl rfl)) hne)
  have HN7 := Lib.hid ((HM6.out.below hb7.out).hn)
  have HB7 := Lib.hid (HB6.out.trans (hb7.out.mono HB6.out.size))
  have HK7 := Lib.hid (HK6.out.below hb7.out HK6.out.lt)
  have HD7 := Lib.hid (HD6.out.below hb7.out HD6.out.lt)
  have HOO := Lib.hid (hOO.out.later hb7.out)
  rw [partsOf_eq hIP.out] at HDV
  clear hb7 hIP HM6 HB6 HK6 HD6 HS6 hOO HN
  obtain ⟨go, rfl, -, hgo⟩ := own_some HOO.out (by omega)
  obtain ⟨gp, rfl, -, hgp⟩ := own_some hOP.out (by omega)
  have oa := ints_cell HOO.out han
  have pa := ints_cell hOP.out han
  have d1 := HD7.out.c1
  have d2 := HD7.out.c2
  have HPC : Hid (∀ k, k < ns.length → w7.cell? ⟨gp, k, none⟩ = some (.int .i64 (gI PL k))) := fun k hk => ints_cell hOP.out hk
  have hLA : lvB OP a = (bits BinOp.and IntKind.i64 (gI OP a) 1 != 0) := rfl
  have ob := ints_cell HOO.out hbn
  have pb := HPC.out b hbn
  have d3 := HD7.out.c3
  have hLB : lvB OP b = (bits BinOp.and IntKind.i64 (gI OP b) 1 != 0) := rfl
  have HOE : Hid (sOk kd a b PL = !(gI PL a == gI PL b)) := by unfold Hid sOk; rw [if_neg HKN.out, if_neg (by rw [HJ0.out]; simp)]; rfl
  have HL0 : Hid (sL0 kd a OP = lvB OP a) := by unfold Hid sL0; rw [if_neg HKN.out, if_neg (by rw [HJ0.out]; simp)]
  have HL1 : Hid (sL1 kd a b OP = lvB OP b) := by unfold Hid sL1; rw [if_neg HKN.out, if_neg (by rw [HJ0.out]; simp)]
  clear hj hOP HOO
  rw [hLA] at HL0
  rw [hLB] at HL1
  clear hLA hLB
  obtain ⟨la, hla⟩ : ∃ t, t = (bits BinOp.and IntKind.i64 (gI OP a) 1 != 0) := ⟨_, rfl⟩
  obtain ⟨lb, hlb⟩ : ∃ t, t = (bits BinOp.and IntKind.i64 (gI OP b) 1 != 0) := ⟨_, rfl⟩
  rw [← hla] at HL0
  rw [← hlb] at HL1
  have hlb2 := hlb.symm
  have hla2 := hla.symm
  clear hla hlb
  go_wp2_with fail
  refine (HRJ.out w7).mono ?_
  rintro e w7 ⟨rfl, rfl⟩
  go_upto_region 18 with (fail)
  refine wp_region_J (S := fun W' => (∀ k, k < ns.length → W'.cell? ⟨gp, k, none⟩ = some (.int .i64 (gI PL k))) ∧ W'.cell? ⟨db, 2, none⟩ = some (.int .i64 a) ∧ W'.cell? ⟨db, 3, none⟩ = some (.int .i64 b)) (J := []) (by kernel_rfl) ?_ (fun hHeld => ?_)
  ·exact ⟨HPC.out, HD7.out.cell 2, HD7.out.cell 3⟩
  try dsimp only at hHeld
  refine tk 0 100 (mf 11 1) hHeld ?_
  refine tk 5 105 #[tt, ff, ff, ff, ff, tt, ff, ff, ff, ff, ff] hHeld ?_
  refine tk 1 101 #[tt, tt, ff, ff, ff, tt, ff, ff, ff, ff, ff] hHeld ?_
  refine tk 6 106 #[tt, tt, ff, ff, ff, tt, tt, ff, ff, ff, ff] hHeld ?_
  refine wpAnyJ_takeL (i := 2) (d := some 102) (v := ?_) #[tt, tt, tt, ff, ff, tt, tt, ff, ff, ff, ff] (by kernel_rfl) rfl rfl (by kernel_rfl) (by kernel_rfl) (by kernel_rfl) (by kernel_rfl) (by kernel_rfl) (fun _ _ _ h => h) (Or.inl ⟨by rfl, ?_⟩) hHeld ?_
  rotate_left
  ·(intro w hSw; (try dsimp only at hSw); have d2 := hSw.2.1; go_simp; try with_reducible rfl)
  try simp only [Act.put, sA, sB, sC]
  refine wpAnyJ_takeL (i := 7) (d := some 107) (v := ?_) #[tt, tt, tt, ff, ff, tt, tt, tt, ff, ff, ff] (by kernel_rfl) rfl rfl (by kernel_rfl) (by kernel_rfl) (by kernel_rfl) (by kernel_rfl) (by kernel_rfl) (fun _ _ _ h => h) (Or.inl ⟨by rfl, ?_⟩) hHeld ?_
  rotate_left
  ·(intro w hSw; (try dsimp only at hSw); have d3 := hSw.2.2; go_simp; try with_reducible rfl)
  try simp only [Act.put, sA, sB, sC]
  refine tk 3 103 #[tt, tt, tt, tt, ff, tt, tt, tt, ff, ff, ff] hHeld ?_
  refine tk 8 108 #[tt, tt, tt, tt, ff, tt, tt, tt, tt, ff, ff] hHeld ?_
  refine wpAnyJ_takeL (i := 4) (d := some 104) (v := ?_) (mf 11 9) (by kernel_rfl) rfl rfl (by kernel_rfl) (by kernel_rfl) (by kernel_rfl) (by kernel_rfl) (by kernel_rfl) (fun _ _ _ h => h) (Or.inl ⟨by rfl, ?_⟩) hHeld ?_
  rotate_left
  ·(intro w hSw; (try dsimp only at hSw); have p1 := hSw.1 a han; go_simp; try with_reducible rfl)
  try simp only [Act.put, sA, sB, sC]
  refine wpAnyJ_takeL (i := 9) (d := some 109) (v := ?_) (mf 11 10) (by kernel_rfl) rfl rfl (by kernel_rfl) (by kernel_rfl) (by kernel_rfl) (by kernel_rfl) (by kernel_rfl) (fun _ _ _ h => h) (Or.inl ⟨by rfl, ?_⟩) hHeld ?_
  rotate_left
  ·(intro w hSw; (try dsimp only at hSw); have p1 := hSw.1 b hbn; go_simp; try with_reducible rfl)
  try simp only [Act.put, sA, sB, sC]
  refine tk 10 110 (mf 11 11) hHeld ?_
  refine wpAnyJ_done (by kernel_rfl) ?_ _
  rcases hpp : (gI PL a == gI PL b) with _ | _; rotate_left
  ·have HOK : Hid (sOk kd a b PL = false) := by unfold Hid; rw [HOE.out, hpp]; rfl
   go_wp2_with fail
   go_ret2
   exact ⟨by rw [HDV.out, dutyV_off HF.out HOK.out]; rfl, HB7.out.drew⟩
  have HOK : Hid (sOk kd a b PL = true) := by unfold Hid; rw [HOE.out, hpp]; rfl
  clear HOE
  rcases la with _ | _
  ·rcases lb with _ | _
   ·go_wp2_with fail
    go_ret2
    exact ⟨by rw [HDV.out, dutyV_none HF.out HL0.out HL1.out]; rfl, HB7.out.drew⟩
   ·have HNE : Hid (sL0 kd a OP ≠ sL1 kd a b OP) := by unfold Hid; rw [HL0.out, HL1.out]; simp
    have HLT : Hid (loadTo kd a b ns PL OP ns.length ↔ ∃ (i : Nat) (x : Nd), i < ns.length ∧ ns[i]? = some x ∧ 0 < x.cust ∧ gI PL i = gI PL a) := by
     have hdn : dN kd a b PL OP = (a : Int) := by unfold dN dOk; rw [HOK.out, if_pos (by simpa using HNE.out), if_neg (by rw [HL0.out]; simp)]; unfold sN0; rw [if_neg HKN.out, if_neg (by rw [HJ0.out]; simp)]
     unfold Hid loadTo
     rw [hdn]
     rfl
    clear d1 d2
    go_wp2_with fail
    go_loopg [20] ns.length (RofR w7.drew ns PL (gI PL a))
    case atStart => exact ⟨0, rfl, Nat.zero_le _, rfl, rfl, fun ⟨i, x, h, _⟩ => by omega⟩
    case round =>
     obtain ⟨v, rfl, hv, rfl, rfl, hno⟩ := hrel
     by_cases hvt : v < ns.length
     ·obtain ⟨nb0, noff, y, hAn, hnb, hy, hny⟩ := HN7.out.at (k := v) (fun _ => rfl) (by decide) hvt
      have HY := Lib.hid hy
      have hAn2 := HK7.out.cell 0
      rw [hAn] at hAn2
      have k0 : w7.cell? ⟨w.heap.size, 0, none⟩ = some (.slice (some ⟨nb0, noff, none⟩) ns.length cn) := hAn2
      have y1 : w7.cell? ⟨nb0, noff + v * 3 + 1, none⟩ = some (.int .i64 y.cust) := hny 1 _ rfl
      have pv := HPC.out v hvt
      have HAN := Lib.hid hAn
      clear hy hny hAn hAn2
      rcases hq1 : (gI PL v == gI PL a) with _ | _
      ·have HNO : Hid (¬ ∃ (i : Nat) (x : Nd), i < v + 1 ∧ ns[i]? = some x ∧ 0 < x.cust ∧ gI PL i = gI PL a) := fun ⟨i, x, h1, h2, h3, h4⟩ => by
        rcases Nat.lt_succ_iff_lt_or_eq.1 h1 with h | rfl
        ·exact hno.out ⟨i, x, h, h2, h3, h4⟩
        ·rw [h4] at hq1; simp at hq1
       go_wp2_with fail
       go_roundg (ns.length - (v + 1))
       case rel => exact ⟨v + 1, by go_num, by omega, rfl, rfl, HNO⟩
       case measure => omega
      by_cases hcu : 0 < y.cust
      ·have q3 : decide (0 < y.cust) = true := by simpa using hcu
       have HLD := Lib.hid (HLT.out.2 ⟨v, y, hvt, HY.out, hcu, by simpa using hq1⟩)
       clear hcu
       go_wp2_with fail
       go_ret2
       exact ⟨by rw [HDV.out, dutyV_load HF.out HOK.out HNE.out HLD.out]; rfl, HB7.out.drew⟩
      ·have q3 : decide (0 < y.cust) = false := by simpa using hcu
       have HNO : Hid (¬ ∃ (i : Nat) (x : Nd), i < v + 1 ∧ ns[i]? = some x ∧ 0 < x.cust ∧ gI PL i = gI PL a) := fun ⟨i, x, h1, h2, h3, h4⟩ => by
        rcases Nat.lt_succ_iff_lt_or_eq.1 h1 with h | rfl
        ·exact hno.out ⟨i, x, h, h2, h3, h4⟩
        ·rw [HY.out] at h2; injection h2 with h2; subst h2; exact hcu h3
       clear hcu
       go_wp2_with fail
       go_roundg (ns.length - (v + 1))
       case rel => exact ⟨v + 1, by go_num, by omega, rfl, rfl, HNO⟩
       case measure => omega
     ·obtain rfl : v = ns.length := by omega
      have hii : decide (ns.length < ns.length) = false := by simp
      have HNL := Lib.hid (fun h => hno.out (HLT.out.1 h))
      go_wp2_with fail
      go_ret2
      exact ⟨by rw [HDV.out, dutyV_chg HF.out HOK.out HNE.out HNL.out]; rfl, HB7.out.drew⟩
  ·rcases lb with _ | _
   ·have HNE : Hid (sL0 kd a OP ≠ sL1 kd a b OP) := by unfold Hid; rw [HL0.out, HL1.out]; simp
    have HLT : Hid (loadTo kd a b ns PL OP ns.length ↔ ∃ (i : Nat) (x : Nd), i < ns.length ∧ ns[i]? = some x ∧ 0 < x.cust ∧ gI PL i = gI PL b) := by
     have hdn : dN kd a b PL OP = (b : Int) := by unfold dN dOk; rw [HOK.out, if_pos (by simpa using HNE.out), if_pos HL0.out]; unfold sN1; rw [if_neg HKN.out, if_neg (by rw [HJ0.out]; simp)]
     unfold Hid loadTo
     rw [hdn]
     rfl
    clear d1 d2
    go_wp2_with fail
    go_loopg [20] ns.length (RofR w7.drew ns PL (gI PL b))
    case atStart => exact ⟨0, rfl, Nat.zero_le _, rfl, rfl, fun ⟨i, x, h, _⟩ => by omega⟩
    case round =>
     obtain ⟨v, rfl, hv, rfl, rfl, hno⟩ := hrel
     by_cases hvt : v < ns.length
     ·obtain ⟨nb0, noff, y, hAn, hnb, hy, hny⟩ := HN7.out.at (k := v) (fun _ => rfl) (by decide) hvt
      have HY := Lib.hid hy
      have hAn2 := HK7.out.cell 0
      rw [hAn] at hAn2
      have k0 : w7.cell? ⟨w.heap.size, 0, none⟩ = some (.slice (some ⟨nb0, noff, none⟩) ns.length cn) := hAn2
      have y1 : w7.cell? ⟨nb0, noff + v * 3 + 1, none⟩ = some (.int .i64 y.cust) := hny 1 _ rfl
      have pv := HPC.out v hvt
      have HAN := Lib.hid hAn
      clear hy hny hAn hAn2
      rcases hq1 : (gI PL v == gI PL b) with _ | _
      ·have HNO : Hid (¬ ∃ (i : Nat) (x : Nd), i < v + 1 ∧ ns[i]? = some x ∧ 0 < x.cust ∧ gI PL i = gI PL b) := fun ⟨i, x, h1, h2, h3, h4⟩ => by
        rcases Nat.lt_succ_iff_lt_or_eq.1 h1 with h | rfl
        ·exact hno.out ⟨i, x, h, h2, h3, h4⟩
        ·rw [h4] at hq1; simp at hq1
       go_wp2_with fail
       go_roundg (ns.length - (v + 1))
       case rel => exact ⟨v + 1, by go_num, by omega, rfl, rfl, HNO⟩
       case measure => omega
      by_cases hcu : 0 < y.cust
      ·have q3 : decide (0 < y.cust) = true := by simpa using hcu
       have HLD := Lib.hid (HLT.out.2 ⟨v, y, hvt, HY.out, hcu, by simpa using hq1⟩)
       clear hcu
       go_wp2_with fail
       go_ret2
       exact ⟨by rw [HDV.out, dutyV_load HF.out HOK.out HNE.out HLD.out]; rfl, HB7.out.drew⟩
      ·have q3 : decide (0 < y.cust) = false := by simpa using hcu
       have HNO : Hid (¬ ∃ (i : Nat) (x : Nd), i < v + 1 ∧ ns[i]? = some x ∧ 0 < x.cust ∧ gI PL i = gI PL b) := fun ⟨i, x, h1, h2, h3, h4⟩ => by
        rcases Nat.lt_succ_iff_lt_or_eq.1 h1 with h | rfl
        ·exact hno.out ⟨i, x, h, h2, h3, h4⟩
        ·rw [HY.out] at h2; injection h2 with h2; subst h2; exact hcu h3
       clear hcu
       go_wp2_with fail
       go_roundg (ns.length - (v + 1))
       case rel => exact ⟨v + 1, by go_num, by omega, rfl, rfl, HNO⟩
       case measure => omega
     ·obtain rfl : v = ns.length := by omega
      have hii : decide (ns.length < ns.length) = false := by simp
      have HNL := Lib.hid (fun h => hno.out (HLT.out.1 h))
      go_wp2_with fail
      go_ret2
      exact ⟨by rw [HDV.out, dutyV_chg HF.out HOK.out HNE.out HNL.out]; rfl, HB7.out.drew⟩
   ·go_wp2_with fail
    go_ret2
    exact ⟨by rw [HDV.out, dutyV_par HF.out HOK.out HL0.out HL1.out]; rfl, HB7.out.drew⟩
end Go.Proofs.YtfaknfmndafllaaGreatDoor
