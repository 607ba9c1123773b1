import Derived.Test.YtddddlhgaeameaaGreatDoorJ30
set_option maxRecDepth 100000
set_option maxHeartbeats 16000000
namespace Go.Proofs.YtddddlhgaeameaaGreatDoor
open Go.RowKit Tryz
def gI (l : List Int) (k : Nat) : Int := l.getD k 0
theorem yo {w : World} {base n c i g : Nat} {l : List Int} (h : zN w base (some ⟨g, 0, none⟩) n c l) (hi : i < n) : w.cell? ⟨g, i, none⟩ = some (.int .i64 (gI l i)) := by
 obtain ⟨g', x, e, _, _, hx, hc, _⟩ := h.at hi;injection e with e; injection e with e; subst e;unfold gI;rw [List.getD_eq_getElem?_getD, hx]; exact hc
section
variable {kd a b : Int} {ns : List Nd} {parts op cl : List Int}
theorem sQ (h : xG kd a b cl = true) : xS kd a b ns parts op cl = 4 := by unfold xS; rw [if_pos h]
theorem qm (hf : xG kd a b cl = false) (h : FN kd a b parts = false) : xS kd a b ns parts op cl = 0 := by
 unfold xS sU wS Gz; rw [hf, h]; simp
theorem qj (hf : xG kd a b cl = false) (h : FN kd a b parts = true) (h0 : Eh kd a op = true) (h1 : FH kd a b op = true) : xS kd a b ns parts op cl = 3 := by
 unfold xS sU; rw [hf, h, h0, h1]; rfl
theorem mL (hf : xG kd a b cl = false) (h0 : Eh kd a op = false) (h1 : FH kd a b op = false) : xS kd a b ns parts op cl = 0 := by
 unfold xS sU wS Gz; rw [hf, h0, h1]; simp
theorem ut (hf : xG kd a b cl = false) (h : FN kd a b parts = true) (h0 : Eh kd a op ≠ FH kd a b op) (hl : xX kd a b ns parts op ns.length) : xS kd a b ns parts op cl = 2 := by
 have hd : Gz kd a b parts op = true := by unfold Gz; rw [h]; simpa using h0
 have hp : sU kd a b parts op = false := by unfold sU; rw [h]; revert h0; cases Eh kd a op <;> cases FH kd a b op <;> simp
 have Mm : wS kd a b ns parts op = true := by unfold wS; rw [hd]; simpa using hl
 unfold xS; rw [hf, hp, Mm]; rfl
theorem tq (hf : xG kd a b cl = false) (h : FN kd a b parts = true) (h0 : Eh kd a op ≠ FH kd a b op) (hl : ¬ xX kd a b ns parts op ns.length) : xS kd a b ns parts op cl = 1 := by
 have hd : Gz kd a b parts op = true := by unfold Gz; rw [h]; simpa using h0
 have hp : sU kd a b parts op = false := by unfold sU; rw [h]; revert h0; cases Eh kd a op <;> cases FH kd a b op <;> simp
 have Mm : wS kd a b ns parts op = false := by unfold wS; rw [hd]; simpa using hl
 unfold xS; rw [hf, hp, Mm, hd]; rfl
end
def gD (w : World) (ns : List Nd) (P : List Int) (dv : Int) (gk : Nat) (iv : Value) (wr : World) : Prop := ∃ v : Nat, iv = .int .i64 v ∧ v ≤ ns.length ∧ gk = ns.length - v ∧ wr = w ∧ Hid (¬ ∃ (i : Nat) (x : Nd), i < v ∧ ns[i]? = some x ∧ 0 < x.cust ∧ gI P i = dv)
theorem kk (An Ad As : Option Addr) (nn cn nd cd n c i : Nat) (ns : List Nd) (ds : List Dv) (s : List Int) (x : Dv) (w : World) (h : yp w An Ad As none none nn cn nd cd n c 0 0 0 0 ns ds s [] []) (h0 : zG ns ds s = 0) (hx : ds[i]? = some x) :
 Calls prog 73 #[.agg #[.slice An nn cn, .slice Ad nd cd], .slice As n c, .int .i64 i] w fun e w' => e = .returned (.tuple #[.int .i64 (xI nn ns ds s i x), .int .i64 0]) ∧ bW w w' := by
 obtain ⟨DJ, Ic, FR⟩ := h.ln;subst DJ;have hN := xo.of (zQ h0).1;have hsl := (zQ h0).2;have Mk := List.mem_of_getElem? hx;have IQ := hN.a x Mk;have Qy := hN.k x Mk;have Fs : zV x.kind = true → 0 ≤ x.b ∧ x.b < ns.length := fun hj => (hN.e x Mk hj).2
 have hi : i < nd := by have := (List.getElem?_eq_some_iff.1 hx).1; omega
 have Gl := hN.nl;have Vr := hN.dl;have HN := iD hN;have GV := iD FR;have Py : nd ≤ n ∧ n ≤ nd := by omega
 have HB : Hid (Below w.heap.size w (w.alloc (.cells #[.slice An ns.length cn, .slice Ad nd cd] 26))) := (Below.refl _ _).alloc lR _;have HK := iD (AJ.new w 26 #[.slice An ns.length cn, .slice Ad nd cd]);have HH := iD h;have HX := iD hx;have H0 := iD h0;clear h hN Mk hx h0 hsl FR
 go_enter func73, ntmps73
 go_wp2_with fail
 generalize World.alloc w _ = W at *;have HM := iD (HH.below HB);have HC := iD (vW An Ad As ns.length cn nd cd n c _ _ _ ns ds s W HM.hn HM.hd HM.hs lR lR lR HM.sn HM.sd);rw [H0.out] at HC;refine HC.mono ?_;rintro e w1 ⟨rfl, AX⟩;have AL := iD (HB.trans (AX.mono HB.size));have DV := iD (HK.below AX HK.lt);clear HC HM AX HB HK;obtain ⟨b0, off, x', rfl, hb, hx', hc⟩ := (HH.below AL).hd.at (k := i) (fun _ => rfl) (by decide) hi;obtain rfl : x = x' := by have := HX.out; rw [this] at hx'; exact Option.some.inj hx'
 obtain ⟨nm, kd, a, b, co⟩ := x;simp only at IQ Fs Qy;obtain ⟨a, rfl⟩ := Int.eq_ofNat_of_zero_le IQ.1;have JS : a < ns.length := by omega
 have q1 : decide ((i : Int) < 0) = false := by simp
 have q2 : decide ((n : Int) ≤ (i : Int)) = false := by simp; omega
 have c0 : w1.cell? ⟨b0, off + i * 5, none⟩ = some (.string nm) := hc 0 _ rfl;have c1 : w1.cell? ⟨b0, off + i * 5 + 1, none⟩ = some (.int .i64 kd) := hc 1 _ rfl;have c2 : w1.cell? ⟨b0, off + i * 5 + 2, none⟩ = some (.int .i64 a) := hc 2 _ rfl;have c3 : w1.cell? ⟨b0, off + i * 5 + 3, none⟩ = some (.int .i64 b) := hc 3 _ rfl;have c4 : w1.cell? ⟨b0, off + i * 5 + 4, none⟩ = some (.int .i64 co) := hc 4 _ rfl;obtain ⟨k0, k1⟩ := DV.d2;clear hc hx' IQ;go_upto_region 7 with (fail);clear c0 c1 c2 c3 c4 k0 k1 q1 q2;have Oc := iD (AJ.new w1 75 #[.string nm, .int .i64 kd, .int .i64 a, .int .i64 b, .int .i64 co]);have AY := iD (AL.alloc AL.size (.cells #[.string nm, .int .i64 kd, .int .i64 a, .int .i64 b, .int .i64 co] 75));have EE := iD (DV.alloc (.cells #[.string nm, .int .i64 kd, .int .i64 a, .int .i64 b, .int .i64 co] 75));generalize World.alloc w1 _ = w2 at *;obtain ⟨db, Vt⟩ := eX w1.heap.size
 rw [← Vt] at Oc ⊢;clear Vt AL DV hb;have CG := iD (HH.below AY.drew);refine fX (fun W' => W'.cell? ⟨w.heap.size, 0, none⟩ = some (.slice An ns.length cn) ∧ W'.cell? ⟨w.heap.size, 1, none⟩ = some (.slice (some ⟨b0, off, none⟩) nd cd)) [] ?_ fun AA => ?_
 ·exact ⟨EE.cell 0, EE.cell 1⟩
 try dsimp only at AA
 refine tk 0 41 (mf 10 1) AA ?_;refine tk 1 42 (mf 10 2) AA ?_;refine tk 2 43 (mf 10 3) AA ?_;refine tb 3 (mf 10 4) fun K hK => ?_
 (go_simp; refine (vK As n c w2.drew.heap.size s i 2 w2.drew CG.hs lR (by omega)).mono ?_; rintro e w3 ⟨Aw, cw, rfl, Iw, BJ⟩; rw [yy, GV.out] at Iw ⊢; have FZ := iD (CG.below BJ); have CS := iD (AY.drew.trans (BJ.mono AY.drew.size)); have EL := iD (AJ.below (w := w2.drew) EE BJ EE.lt); have Rf := iD (AJ.below (w := w2.drew) Oc BJ Oc.lt); go_simp)
 refine hK _ _ (fun _ => ⟨EL.cell 0, EL.cell 1⟩) fun p => (fun AA => ?_) (p rfl)
 clear p hK K;(try dsimp only at AA);refine tb 4 (mf 10 5) fun K hK => ?_
 (go_simp; refine (wX An (some ⟨b0, off, none⟩) Aw ns.length cn nd cd n cw w3.heap.size w3.heap.size w3.heap.size ns ds (zX s i 2) w3 FZ.hn FZ.hd Iw.sl lR lR lR FZ.sn FZ.sd (by omega) (fun _ => ⟨by omega, HN.e, HN.ne⟩) (fun _ => ⟨HN.a, HN.k⟩)).mono ?_; (rintro e w4 ⟨BX, ⟨hne, -⟩ | ⟨-, AC, CL, rfl, Mx, LA⟩⟩; exact absurd (yQ H0 i (p := 2) (Or.inr rfl)) hne); have Bu := iD (CS.trans (BX.mono CS.size)); have Ee := iD (EL.below BX EL.lt); have KC := iD (Rf.below BX Rf.lt); go_simp)
 refine hK _ _ (fun _ => ⟨Ee.cell 0, Ee.cell 1⟩) fun p => (fun AA => ?_) (p rfl)
 clear p hK K;(try dsimp only at AA);refine tk 5 40 (mf 10 6) AA ?_;refine tk 6 46 (mf 10 7) AA ?_;refine tk 7 47 (mf 10 8) AA ?_;refine tk 8 10 (mf 10 9) AA ?_;refine tk 9 11 (mf 10 10) AA ?_;refine tK ?_;have GA : Hid (xI ns.length ns ds s i ⟨nm, kd, a, b, co⟩ = xS kd a b ns (tP ns.length ds (zX s i 1)) (zW ns.length ds (zX s i 1)) CL) := by unfold Hid xI; rw [xN LA.out]
 obtain ⟨g, rfl, -, hg⟩ := wJ Mx (by omega);have AK := yo Mx JS;have Qg : Hid (∀ k, k < ns.length → w4.cell? ⟨g, k, none⟩ = some (.int .i64 (gI CL k))) := fun k hk => yo Mx hk
 have RV := iD (vX kd);have d1 := KC.cell 1;have d2 := KC.cell 2;have JY : Hid (xG kd a b CL = ((gI CL a == 3) || (zV kd && (gI CL b.toNat == 3)))) := rfl;clear Oc EE AY CG FZ CS EL Rf BJ BX Iw LA Mx;rcases hq : (gI CL a == 3) with _ | _; rotate_left
 ·have HF : Hid (xG kd a b CL = true) := by unfold Hid; rw [JY.out, hq]; rfl
  go_wp2_with fail
  go_ret2;exact ⟨by rw [GA.out, sQ HF.out]; rfl, Bu⟩
 rw [hq] at JY;rcases hj : zV kd with _ | _
 ·have HF : Hid (xG kd a b CL = false) := by unfold Hid; rw [JY.out, hj]; rfl
  have Oe := iD hj;rw [hj] at RV;clear JY Fs
  go_wp2_with fail
  refine (RV w4).mono ?_;rintro e w4 ⟨rfl, rfl⟩;rcases QA : (kd == 4) with _ | _; rotate_left
  ·have BR : Hid (FN kd a b (tP ns.length ds (zX s i 1)) = false) := by unfold Hid FN; rw [if_pos (by simpa using QA)]
   go_wp2_with fail
   go_ret2;exact ⟨by rw [GA.out, qm HF.out BR.out]; rfl, Bu⟩
  have IM : kd ≠ 4 := by simpa using QA
  have JX := iD IM;clear IM;obtain ⟨k0, k1⟩ := Ee.d2
  go_wp2_with fail
  clear k0 k1 d1 d2 AK;have IW := iD (HH.below Bu);refine (vK As n c w4.heap.size s i 1 w4 IW.hs lR (by omega)).mono ?_;rintro e w5 ⟨UD, Sq, rfl, Iw, BM⟩;rw [yy, GV.out] at Iw ⊢;have IE := iD (IW.below BM);have Cj := iD (Bu.trans (BM.mono Bu.size));have LV := iD (Ee.below BM Ee.lt);have Tu := iD (KC.below BM KC.lt);have Fg : Hid (Sl w5 w5.heap.size 1 UD n Sq (zF (zX s i 1))) := Iw.sl;clear Iw BM IW Bu Ee KC Qg;obtain ⟨k0, k1⟩ := LV.d2
  go_wp2_with fail
  clear k0 k1;refine (wX An (some ⟨b0, off, none⟩) UD ns.length cn nd cd n Sq w5.heap.size w5.heap.size w5.heap.size ns ds (zX s i 1) w5 IE.hn IE.hd Fg lR lR lR IE.sn IE.sd (by omega) (fun _ => ⟨by omega, HN.e, HN.ne⟩) (fun _ => ⟨HN.a, HN.k⟩)).mono ?_
  (rintro e w6 ⟨Cv, ⟨hne, -⟩ | ⟨-, AO, OP, rfl, WC, WI⟩⟩; exact absurd (yQ H0 i (p := 1) (Or.inl rfl)) hne)
  have Ey := iD (IE.below Cv);have Dh := iD (Cj.trans (Cv.mono Cj.size));have IY := iD (LV.below Cv LV.lt);have Tt := iD (Tu.below Cv Tu.lt);have Ik := iD ((Fg.below Cv lR).more Cv.size);rw [xN WI.out] at GA;clear Cv WI IE Cj LV Tu Fg;obtain ⟨k0, k1⟩ := IY.d2
  go_wp2_with fail
  clear k0 k1;refine (ui An (some ⟨b0, off, none⟩) UD ns.length cn nd cd n Sq w6.heap.size w6.heap.size w6.heap.size ns ds (zX s i 1) w6 Ey.hn Ey.hd Ik lR lR lR Ey.sn Ey.sd (by omega) (fun _ => ⟨by omega, HN.e, HN.ne⟩)).mono ?_
  (rintro e w7 ⟨Dc, ⟨hne, -⟩ | ⟨-, AP, PL, rfl, QG, WH⟩⟩; exact absurd (yQ H0 i (p := 1) (Or.inl rfl)) hne)
  have TV := iD ((Ey.below Dc).hn);have Eg := iD (Dh.trans (Dc.mono Dh.size));have Te := iD (IY.below Dc IY.lt);have Re := iD (Tt.below Dc Tt.lt);have Ra := iD (WC.later Dc);rw [ul WH.out] at GA;clear Dc WH Ey Dh IY Tt Ik WC HN;obtain ⟨go, rfl, -, hgo⟩ := wJ Ra (by omega);obtain ⟨gp, rfl, -, Vp⟩ := wJ QG (by omega);have oa := yo Ra JS;have pa := yo QG JS;have d1 := Re.cell 1;have d2 := Re.cell 2;have QY : Hid (∀ k, k < ns.length → w7.cell? ⟨gp, k, none⟩ = some (.int .i64 (gI PL k))) := fun k hk => yo QG hk
  have PT : JN OP a = (bits BinOp.and IntKind.i64 (gI OP a) 1 != 0) := rfl;have BR : Hid (FN kd a b PL = true) := by unfold Hid FN; rw [if_neg JX.out, if_pos Oe.out]
  have JW : Hid (Eh kd a OP = true) := by unfold Hid Eh; rw [if_neg JX.out, if_pos Oe.out]
  have EK : Hid (FH kd a b OP = JN OP a) := by unfold Hid FH; rw [if_neg JX.out, if_pos Oe.out]
  clear hj QG Ra;rcases hl : (bits BinOp.and IntKind.i64 (gI OP a) 1 != 0) with _ | _; rotate_left
  ·rw [PT, hl] at EK;clear PT
   go_wp2_with fail
   refine (RV w7).mono ?_;rintro e w7 ⟨rfl, rfl⟩
   go_wp2_with fail
   go_ret2;exact ⟨by rw [GA.out, qj HF.out BR.out JW.out EK.out]; rfl, Eg⟩
  rw [PT, hl] at EK;have DR : Hid (Eh kd a OP ≠ FH kd a b OP) := by unfold Hid; rw [JW.out, EK.out]; simp
  clear PT
  go_wp2_with fail
  refine (RV w7).mono ?_;rintro e w7 ⟨rfl, rfl⟩
  have Fw : Hid (xX kd a b ns PL OP ns.length ↔ ∃ (i : Nat) (x : Nd), i < ns.length ∧ ns[i]? = some x ∧ 0 < x.cust ∧ gI PL i = gI PL a) := by
   have PP : dN kd a b PL OP = (a : Int) := by unfold dN Gz; rw [BR.out, if_pos (by simpa using DR.out), if_pos JW.out]; unfold KE; rw [if_neg JX.out, if_pos Oe.out]
   unfold Hid xX;rw [PP];rfl
  clear d1 d2
  go_wp2_with fail
  go_loopg [20] ns.length (gD w7 ns PL (gI PL a))
  case atStart => exact ⟨0, rfl, Nat.zero_le _, rfl, rfl, fun ⟨i, x, h, _⟩ => by omega⟩
  case round =>
   obtain ⟨v, rfl, hv, rfl, rfl, hno⟩ := hrel;by_cases Nb : v < ns.length
   ·obtain ⟨Qq, Jd, y, OB, CP, hy, Qu⟩ := TV.at (k := v) (fun _ => rfl) (by decide) Nb;have HY := iD hy;have Gy := Te.cell 0;rw [OB] at Gy;have k0 : wr.cell? ⟨w.heap.size, 0, none⟩ = some (.slice (some ⟨Qq, Jd, none⟩) ns.length cn) := Gy;have y1 : wr.cell? ⟨Qq, Jd + v * 3 + 1, none⟩ = some (.int .i64 y.cust) := Qu 1 _ rfl;have pv := QY v Nb;have Ag := iD OB;clear hy Qu OB Gy;rcases JP : (gI PL v == gI PL a) with _ | _
    ·have JU : Hid (¬ ∃ (i : Nat) (x : Nd), i < v + 1 ∧ ns[i]? = some x ∧ 0 < x.cust ∧ gI PL i = gI PL a) := fun ⟨i, x, h1, h2, h3, h4⟩ => by
      rcases Nat.lt_succ_iff_lt_or_eq.1 h1 with h | rfl
      ·exact hno ⟨i, x, h, h2, h3, h4⟩
      ·rw [h4] at JP; simp at JP
     go_wp2_with fail
     go_roundg (ns.length - (v + 1))
     ·exact ⟨v + 1, by go_num, by omega, rfl, rfl, JU⟩
     omega
    by_cases DY : 0 < y.cust
    ·have q3 : decide (0 < y.cust) = true := by simpa using DY
     have Fx := iD (Fw.2 ⟨v, y, Nb, HY, DY, by simpa using JP⟩);clear DY
     go_wp2_with fail
     go_ret2;exact ⟨by rw [GA.out, ut HF.out BR.out DR.out Fx.out]; rfl, Eg⟩
    ·have q3 : decide (0 < y.cust) = false := by simpa using DY
     have JU : Hid (¬ ∃ (i : Nat) (x : Nd), i < v + 1 ∧ ns[i]? = some x ∧ 0 < x.cust ∧ gI PL i = gI PL a) := fun ⟨i, x, h1, h2, h3, h4⟩ => by
      rcases Nat.lt_succ_iff_lt_or_eq.1 h1 with h | rfl
      ·exact hno ⟨i, x, h, h2, h3, h4⟩
      ·rw [HY.out] at h2; injection h2 with h2; subst h2; exact DY h3
     clear DY
     go_wp2_with fail
     go_roundg (ns.length - (v + 1))
     ·exact ⟨v + 1, by go_num, by omega, rfl, rfl, JU⟩
     omega
   ·obtain rfl : v = ns.length := by omega
    have Ck : decide (ns.length < ns.length) = false := by simp
    have JG := iD (fun h => hno (Fw.1 h))
    go_wp2_with fail
    go_ret2;exact ⟨by rw [GA.out, tq HF.out BR.out DR.out JG.out]; rfl, Eg⟩
 ·obtain ⟨b, rfl⟩ := Int.eq_ofNat_of_zero_le (Fs hj).1;have DK : b < ns.length := by have := (Fs hj).2; omega
  have Ab := Qg b DK;have d3 := KC.cell 3;have Oe := iD hj;rw [hj] at RV JY;clear Fs;rcases Va : (gI CL b == 3) with _ | _; rotate_left
  ·have HF : Hid (xG kd a b CL = true) := by unfold Hid; rw [JY.out, Int.toNat_natCast, Va]; rfl
   clear JY
   go_wp2_with fail
   refine (RV w4).mono ?_;rintro e w4 ⟨rfl, rfl⟩
   go_wp2_with fail
   go_ret2;exact ⟨by rw [GA.out, sQ HF.out]; rfl, Bu⟩
  have HF : Hid (xG kd a b CL = false) := by unfold Hid; rw [JY.out, Int.toNat_natCast, Va]; rfl
  have JX : Hid (kd ≠ 4) := fun e => by subst e; exact absurd Oe.out (by decide)
  have QA : (kd == 4) = false := by simpa using JX.out
  clear JY
  go_wp2_with fail
  refine (RV w4).mono ?_;rintro e w4 ⟨rfl, rfl⟩;obtain ⟨k0, k1⟩ := Ee.d2
  go_wp2_with fail
  clear k0 k1 d1 d2 d3 AK Ab;have IW := iD (HH.below Bu);refine (vK As n c w4.heap.size s i 1 w4 IW.hs lR (by omega)).mono ?_;rintro e w5 ⟨UD, Sq, rfl, Iw, BM⟩;rw [yy, GV.out] at Iw ⊢;have IE := iD (IW.below BM);have Cj := iD (Bu.trans (BM.mono Bu.size));have LV := iD (Ee.below BM Ee.lt);have Tu := iD (KC.below BM KC.lt);have Fg : Hid (Sl w5 w5.heap.size 1 UD n Sq (zF (zX s i 1))) := Iw.sl;clear Iw BM IW Bu Ee KC Qg;obtain ⟨k0, k1⟩ := LV.d2
  go_wp2_with fail
  clear k0 k1;refine (wX An (some ⟨b0, off, none⟩) UD ns.length cn nd cd n Sq w5.heap.size w5.heap.size w5.heap.size ns ds (zX s i 1) w5 IE.hn IE.hd Fg lR lR lR IE.sn IE.sd (by omega) (fun _ => ⟨by omega, HN.e, HN.ne⟩) (fun _ => ⟨HN.a, HN.k⟩)).mono ?_
  (rintro e w6 ⟨Cv, ⟨hne, -⟩ | ⟨-, AO, OP, rfl, WC, WI⟩⟩; exact absurd (yQ H0 i (p := 1) (Or.inl rfl)) hne)
  have Ey := iD (IE.below Cv);have Dh := iD (Cj.trans (Cv.mono Cj.size));have IY := iD (LV.below Cv LV.lt);have Tt := iD (Tu.below Cv Tu.lt);have Ik := iD ((Fg.below Cv lR).more Cv.size);rw [xN WI.out] at GA;clear Cv WI IE Cj LV Tu Fg;obtain ⟨k0, k1⟩ := IY.d2
  go_wp2_with fail
  clear k0 k1;refine (ui An (some ⟨b0, off, none⟩) UD ns.length cn nd cd n Sq w6.heap.size w6.heap.size w6.heap.size ns ds (zX s i 1) w6 Ey.hn Ey.hd Ik lR lR lR Ey.sn Ey.sd (by omega) (fun _ => ⟨by omega, HN.e, HN.ne⟩)).mono ?_
  (rintro e w7 ⟨Dc, ⟨hne, -⟩ | ⟨-, AP, PL, rfl, QG, WH⟩⟩; exact absurd (yQ H0 i (p := 1) (Or.inl rfl)) hne)
  have TV := iD ((Ey.below Dc).hn);have Eg := iD (Dh.trans (Dc.mono Dh.size));have Te := iD (IY.below Dc IY.lt);have Re := iD (Tt.below Dc Tt.lt);have Ra := iD (WC.later Dc);rw [ul WH.out] at GA;clear Dc WH Ey Dh IY Tt Ik WC HN;obtain ⟨go, rfl, -, hgo⟩ := wJ Ra (by omega);obtain ⟨gp, rfl, -, Vp⟩ := wJ QG (by omega);have oa := yo Ra JS;have pa := yo QG JS;have d1 := Re.cell 1;have d2 := Re.cell 2;have QY : Hid (∀ k, k < ns.length → w7.cell? ⟨gp, k, none⟩ = some (.int .i64 (gI PL k))) := fun k hk => yo QG hk
  have PT : JN OP a = (bits BinOp.and IntKind.i64 (gI OP a) 1 != 0) := rfl;have ob := yo Ra DK;have pb := QY b DK;have d3 := Re.cell 3;have WE : JN OP b = (bits BinOp.and IntKind.i64 (gI OP b) 1 != 0) := rfl;have AV : Hid (FN kd a b PL = !(gI PL a == gI PL b)) := by unfold Hid FN; rw [if_neg JX.out, if_neg (by rw [Oe.out]; simp)]; rfl
  have JW : Hid (Eh kd a OP = JN OP a) := by unfold Hid Eh; rw [if_neg JX.out, if_neg (by rw [Oe.out]; simp)]
  have EK : Hid (FH kd a b OP = JN OP b) := by unfold Hid FH; rw [if_neg JX.out, if_neg (by rw [Oe.out]; simp)]
  clear hj QG Ra;rw [PT] at JW;rw [WE] at EK;clear PT WE;obtain ⟨la, Ie⟩ := eX ((bits BinOp.and IntKind.i64 (gI OP a) 1 != 0));obtain ⟨lb, AH⟩ := eX ((bits BinOp.and IntKind.i64 (gI OP b) 1 != 0));rw [← Ie] at JW;rw [← AH] at EK;have Ah := AH.symm;have Ai := Ie.symm;clear Ie AH
  go_wp2_with fail
  refine (RV w7).mono ?_;rintro e w7 ⟨rfl, rfl⟩;go_upto_region 18 with (fail);refine fX (fun W' => (∀ k, k < ns.length → W'.cell? ⟨gp, k, none⟩ = some (.int .i64 (gI PL k))) ∧ W'.cell? ⟨db, 2, none⟩ = some (.int .i64 a) ∧ W'.cell? ⟨db, 3, none⟩ = some (.int .i64 b)) [] ?_ fun AA => ?_
  ·exact ⟨QY, Re.cell 2, Re.cell 3⟩
  try dsimp only at AA
  refine tk 0 100 (mf 11 1) AA ?_;refine tk 5 105 (ma 11 33) AA ?_;refine tk 1 101 (ma 11 35) AA ?_;refine tk 6 106 (ma 11 99) AA ?_;refine ty 2 102 (ma 11 103) AA (y := by intro w AR; have d2 := AR.2.1; go_simp; try with_reducible rfl) (h := ?_);refine ty 7 107 (ma 11 231) AA (y := by intro w AR; have d3 := AR.2.2; go_simp; try with_reducible rfl) (h := ?_);refine tk 3 103 (ma 11 239) AA ?_;refine tk 8 108 (ma 11 495) AA ?_;refine ty 4 104 (mf 11 9) AA (y := by intro w AR; have p1 := AR.1 a JS; go_simp; try with_reducible rfl) (h := ?_);refine ty 9 109 (mf 11 10) AA (y := by intro w AR; have p1 := AR.1 b DK; go_simp; try with_reducible rfl) (h := ?_);refine tk 10 110 (mf 11 11) AA ?_;refine tK ?_;rcases Ml : (gI PL a == gI PL b) with _ | _; rotate_left
  ·have BR : Hid (FN kd a b PL = false) := by unfold Hid; rw [AV.out, Ml]; rfl
   go_wp2_with fail
   go_ret2;exact ⟨by rw [GA.out, qm HF.out BR.out]; rfl, Eg.drew⟩
  have BR : Hid (FN kd a b PL = true) := by unfold Hid; rw [AV.out, Ml]; rfl
  clear AV;rcases la with _ | _
  ·rcases lb with _ | _
   ·go_wp2_with fail
    go_ret2;exact ⟨by rw [GA.out, mL HF.out JW.out EK.out]; rfl, Eg.drew⟩
   ·have DR : Hid (Eh kd a OP ≠ FH kd a b OP) := by unfold Hid; rw [JW.out, EK.out]; simp
    have Fw : Hid (xX kd a b ns PL OP ns.length ↔ ∃ (i : Nat) (x : Nd), i < ns.length ∧ ns[i]? = some x ∧ 0 < x.cust ∧ gI PL i = gI PL a) := by
     have PP : dN kd a b PL OP = (a : Int) := by unfold dN Gz; rw [BR.out, if_pos (by simpa using DR.out), if_neg (by rw [JW.out]; simp)]; unfold Kj; rw [if_neg JX.out, if_neg (by rw [Oe.out]; simp)]
     unfold Hid xX;rw [PP];rfl
    clear d1 d2
    go_wp2_with fail
    go_loopg [20] ns.length (gD w7.drew ns PL (gI PL a))
    case atStart => exact ⟨0, rfl, Nat.zero_le _, rfl, rfl, fun ⟨i, x, h, _⟩ => by omega⟩
    case round =>
     obtain ⟨v, rfl, hv, rfl, rfl, hno⟩ := hrel;by_cases Nb : v < ns.length
     ·obtain ⟨Qq, Jd, y, OB, CP, hy, Qu⟩ := TV.at (k := v) (fun _ => rfl) (by decide) Nb;have HY := iD hy;have Gy := Te.cell 0;rw [OB] at Gy;have k0 : w7.cell? ⟨w.heap.size, 0, none⟩ = some (.slice (some ⟨Qq, Jd, none⟩) ns.length cn) := Gy;have y1 : w7.cell? ⟨Qq, Jd + v * 3 + 1, none⟩ = some (.int .i64 y.cust) := Qu 1 _ rfl;have pv := QY v Nb;have Ag := iD OB;clear hy Qu OB Gy;rcases JP : (gI PL v == gI PL a) with _ | _
      ·have JU : Hid (¬ ∃ (i : Nat) (x : Nd), i < v + 1 ∧ ns[i]? = some x ∧ 0 < x.cust ∧ gI PL i = gI PL a) := fun ⟨i, x, h1, h2, h3, h4⟩ => by
        rcases Nat.lt_succ_iff_lt_or_eq.1 h1 with h | rfl
        ·exact hno ⟨i, x, h, h2, h3, h4⟩
        ·rw [h4] at JP; simp at JP
       go_wp2_with fail
       go_roundg (ns.length - (v + 1))
       ·exact ⟨v + 1, by go_num, by omega, rfl, rfl, JU⟩
       omega
      by_cases DY : 0 < y.cust
      ·have q3 : decide (0 < y.cust) = true := by simpa using DY
       have Fx := iD (Fw.2 ⟨v, y, Nb, HY, DY, by simpa using JP⟩);clear DY
       go_wp2_with fail
       go_ret2;exact ⟨by rw [GA.out, ut HF.out BR.out DR.out Fx.out]; rfl, Eg.drew⟩
      ·have q3 : decide (0 < y.cust) = false := by simpa using DY
       have JU : Hid (¬ ∃ (i : Nat) (x : Nd), i < v + 1 ∧ ns[i]? = some x ∧ 0 < x.cust ∧ gI PL i = gI PL a) := fun ⟨i, x, h1, h2, h3, h4⟩ => by
        rcases Nat.lt_succ_iff_lt_or_eq.1 h1 with h | rfl
        ·exact hno ⟨i, x, h, h2, h3, h4⟩
        ·rw [HY.out] at h2; injection h2 with h2; subst h2; exact DY h3
       clear DY
       go_wp2_with fail
       go_roundg (ns.length - (v + 1))
       ·exact ⟨v + 1, by go_num, by omega, rfl, rfl, JU⟩
       omega
     ·obtain rfl : v = ns.length := by omega
      have Ck : decide (ns.length < ns.length) = false := by simp
      have JG := iD (fun h => hno (Fw.1 h))
      go_wp2_with fail
      go_ret2;exact ⟨by rw [GA.out, tq HF.out BR.out DR.out JG.out]; rfl, Eg.drew⟩
  ·rcases lb with _ | _
   ·have DR : Hid (Eh kd a OP ≠ FH kd a b OP) := by unfold Hid; rw [JW.out, EK.out]; simp
    have Fw : Hid (xX kd a b ns PL OP ns.length ↔ ∃ (i : Nat) (x : Nd), i < ns.length ∧ ns[i]? = some x ∧ 0 < x.cust ∧ gI PL i = gI PL b) := by
     have PP : dN kd a b PL OP = (b : Int) := by unfold dN Gz; rw [BR.out, if_pos (by simpa using DR.out), if_pos JW.out]; unfold KE; rw [if_neg JX.out, if_neg (by rw [Oe.out]; simp)]
     unfold Hid xX;rw [PP];rfl
    clear d1 d2
    go_wp2_with fail
    go_loopg [20] ns.length (gD w7.drew ns PL (gI PL b))
    case atStart => exact ⟨0, rfl, Nat.zero_le _, rfl, rfl, fun ⟨i, x, h, _⟩ => by omega⟩
    case round =>
     obtain ⟨v, rfl, hv, rfl, rfl, hno⟩ := hrel;by_cases Nb : v < ns.length
     ·obtain ⟨Qq, Jd, y, OB, CP, hy, Qu⟩ := TV.at (k := v) (fun _ => rfl) (by decide) Nb;have HY := iD hy;have Gy := Te.cell 0;rw [OB] at Gy;have k0 : w7.cell? ⟨w.heap.size, 0, none⟩ = some (.slice (some ⟨Qq, Jd, none⟩) ns.length cn) := Gy;have y1 : w7.cell? ⟨Qq, Jd + v * 3 + 1, none⟩ = some (.int .i64 y.cust) := Qu 1 _ rfl;have pv := QY v Nb;have Ag := iD OB;clear hy Qu OB Gy;rcases JP : (gI PL v == gI PL b) with _ | _
      ·have JU : Hid (¬ ∃ (i : Nat) (x : Nd), i < v + 1 ∧ ns[i]? = some x ∧ 0 < x.cust ∧ gI PL i = gI PL b) := fun ⟨i, x, h1, h2, h3, h4⟩ => by
        rcases Nat.lt_succ_iff_lt_or_eq.1 h1 with h | rfl
        ·exact hno ⟨i, x, h, h2, h3, h4⟩
        ·rw [h4] at JP; simp at JP
       go_wp2_with fail
       go_roundg (ns.length - (v + 1))
       ·exact ⟨v + 1, by go_num, by omega, rfl, rfl, JU⟩
       omega
      by_cases DY : 0 < y.cust
      ·have q3 : decide (0 < y.cust) = true := by simpa using DY
       have Fx := iD (Fw.2 ⟨v, y, Nb, HY, DY, by simpa using JP⟩);clear DY
       go_wp2_with fail
       go_ret2;exact ⟨by rw [GA.out, ut HF.out BR.out DR.out Fx.out]; rfl, Eg.drew⟩
      ·have q3 : decide (0 < y.cust) = false := by simpa using DY
       have JU : Hid (¬ ∃ (i : Nat) (x : Nd), i < v + 1 ∧ ns[i]? = some x ∧ 0 < x.cust ∧ gI PL i = gI PL b) := fun ⟨i, x, h1, h2, h3, h4⟩ => by
        rcases Nat.lt_succ_iff_lt_or_eq.1 h1 with h | rfl
        ·exact hno ⟨i, x, h, h2, h3, h4⟩
        ·rw [HY.out] at h2; injection h2 with h2; subst h2; exact DY h3
       clear DY
       go_wp2_with fail
       go_roundg (ns.length - (v + 1))
       ·exact ⟨v + 1, by go_num, by omega, rfl, rfl, JU⟩
       omega
     ·obtain rfl : v = ns.length := by omega
      have Ck : decide (ns.length < ns.length) = false := by simp
      have JG := iD (fun h => hno (Fw.1 h))
      go_wp2_with fail
      go_ret2;exact ⟨by rw [GA.out, tq HF.out BR.out DR.out JG.out]; rfl, Eg.drew⟩
   ·go_wp2_with fail
    go_ret2;exact ⟨by rw [GA.out, qj HF.out BR.out JW.out EK.out]; rfl, Eg.drew⟩
theorem jE {nn : Nat} {ds : List Dv} {s c : List Int} (hc : vH nn ds s c) {a b : Nat} (ha : a < nn) (hb : b < nn) : yw (bits .or .i64 (c.getD a 0) (c.getD b 0)) = (yw (c.getD a 0) || yw (c.getD b 0)) := by
 rw [yM (hc.2 a ha), yM (hc.2 b hb)];unfold kD;rcases yh (rm yv ds s a) 1 with ⟨_, e1⟩ | ⟨_, e1⟩ <;> rcases yh (rm (· = 4) ds s a) 2 with ⟨_, e2⟩ | ⟨_, e2⟩ <;> rcases yh (rm yv ds s b) 1 with ⟨_, e3⟩ | ⟨_, e3⟩ <;> rcases yh (rm (· = 4) ds s b) 2 with ⟨_, e4⟩ | ⟨_, e4⟩ <;> rw [e1, e2, e3, e4] <;> kernel_rfl
theorem lz (kd a b : Int) (ns : List Nd) (parts op cl : List Int) : xS kd a b ns parts op cl = 0 ∨ xS kd a b ns parts op cl = 1 ∨ xS kd a b ns parts op cl = 2 ∨ xS kd a b ns parts op cl = 3 ∨ xS kd a b ns parts op cl = 4 := by
 unfold xS;split
 ·simp
 split
 ·simp
 split
 ·simp
 split <;> simp
theorem ki (An Ad As : Option Addr) (nn cn nd cd n c i : Nat) (ns : List Nd) (ds : List Dv) (s : List Int) (p : Int) (x : Dv) (w : World) (h : yp w An Ad As none none nn cn nd cd n c 0 0 0 0 ns ds s [] []) (h0 : zG ns ds s = 0) (hx : ds[i]? = some x) (hp : p = 1 ∨ p = 2) :
 Calls prog 74 #[.agg #[.slice An nn cn, .slice Ad nd cd], .slice As n c, .agg #[.int .i64 i, .int .i64 p]] w fun e w' => e = .returned (.bool (ya x.kind p (xI nn ns ds s i x) (Cz (zW nn ds s) x))) ∧ bW w w' := by
 obtain ⟨DJ, Ic, FR⟩ := h.ln;subst DJ;have hN := xo.of (zQ h0).1;have hsl := (zQ h0).2;have Mk := List.mem_of_getElem? hx;have IQ := hN.a x Mk;have Qy := hN.k x Mk;have Fs : zV x.kind = true → 0 ≤ x.b ∧ x.b < ns.length := fun hj => (hN.e x Mk hj).2
 have hi : i < nd := by have := (List.getElem?_eq_some_iff.1 hx).1; omega
 have Gl := hN.nl;have Vr := hN.dl;have HN := iD hN;have GV := iD FR;have Py : nd ≤ n ∧ n ≤ nd := by omega
 have HB : Hid (Below w.heap.size w ((w.alloc (.cells #[.slice An ns.length cn, .slice Ad nd cd] 26)).alloc (.cells #[.int .i64 i, .int .i64 p] 66))) := ((Below.refl _ _).alloc lR _).alloc (by simp) _;have HK := iD ((AJ.new w 26 #[.slice An ns.length cn, .slice Ad nd cd]).alloc (.cells #[.int .i64 i, .int .i64 p] 66));have HO := iD (AJ.new (w.alloc (.cells #[.slice An ns.length cn, .slice Ad nd cd] 26)) 66 #[.int .i64 i, .int .i64 p]);have hsz : (w.alloc (.cells #[.slice An ns.length cn, .slice Ad nd cd] 26)).heap.size = w.heap.size + 1 := by simp
 rw [hsz] at HO;have HH := iD h;have HX := iD hx;have H0 := iD h0;clear h hN Mk hx h0 hsl FR
 go_enter func74, ntmps74
 go_upto_region 1 with (fail);clear hsz;generalize World.alloc (World.alloc w _) _ = W at *;obtain ⟨b0, off, x', rfl, hb, hx', hc⟩ := (HH.below HB).hd.at (k := i) (fun _ => rfl) (by decide) hi;obtain rfl : x = x' := by have := HX.out; rw [this] at hx'; exact Option.some.inj hx'
 obtain ⟨nm, kd, a, b, co⟩ := x;simp only at IQ Fs Qy;obtain ⟨a, rfl⟩ := Int.eq_ofNat_of_zero_le IQ.1;have JS : a < ns.length := by omega
 have c0 : W.cell? ⟨b0, off + i * 5, none⟩ = some (.string nm) := hc 0 _ rfl;have c1 : W.cell? ⟨b0, off + i * 5 + 1, none⟩ = some (.int .i64 kd) := hc 1 _ rfl;have c2 : W.cell? ⟨b0, off + i * 5 + 2, none⟩ = some (.int .i64 a) := hc 2 _ rfl;have c3 : W.cell? ⟨b0, off + i * 5 + 3, none⟩ = some (.int .i64 b) := hc 3 _ rfl;have c4 : W.cell? ⟨b0, off + i * 5 + 4, none⟩ = some (.int .i64 co) := hc 4 _ rfl;obtain ⟨k0, k1⟩ := HK.d2;have o0 := HO.cell 0;clear hc hx' IQ;go_upto_region 2 with (fail);clear c0 c1 c2 c3 c4 k0 k1 o0;have Oc := iD (AJ.new W 75 #[.string nm, .int .i64 kd, .int .i64 a, .int .i64 b, .int .i64 co]);have AY := iD (HB.alloc HB.size (.cells #[.string nm, .int .i64 kd, .int .i64 a, .int .i64 b, .int .i64 co] 75));have EE := iD (HK.alloc (.cells #[.string nm, .int .i64 kd, .int .i64 a, .int .i64 b, .int .i64 co] 75))
 have BQ := iD (HO.alloc (.cells #[.string nm, .int .i64 kd, .int .i64 a, .int .i64 b, .int .i64 co] 75));generalize World.alloc W _ = w2 at *;obtain ⟨db, Vt⟩ := eX W.heap.size;rw [← Vt] at Oc ⊢;clear Vt HB HK HO hb;have CG := iD (HH.below AY);obtain ⟨k0, k1⟩ := EE.d2;have o0 := BQ.cell 0
 go_wp2_with fail
 clear k0 k1 o0;refine (kk An (some ⟨b0, off, none⟩) As ns.length cn nd cd n c i ns ds s _ w2 CG H0 HX).mono ?_;rintro e w3 ⟨rfl, BJ⟩;have CS := iD (AY.trans (BJ.mono AY.size));have EL := iD (EE.below BJ EE.lt);have BU := iD (BQ.below BJ BQ.lt);have Rf := iD (Oc.below BJ Oc.lt);have FZ := iD (CG.below BJ);obtain ⟨du, Mr⟩ := eX (xI ns.length ns ds s i ⟨nm, kd, a, b, co⟩);have NM : Hid (du = 0 ∨ du = 1 ∨ du = 2 ∨ du = 3 ∨ du = 4) := by rw [Mr]; exact lz ..
 rw [← Mr];have NN := iD Mr;clear BJ AY EE BQ Oc CG Mr;have d1 := Rf.cell 1;have o1 := BU.cell 1;obtain rfl | rfl | rfl | rfl | rfl | rfl : kd = 1 ∨ kd = 2 ∨ kd = 3 ∨ kd = 4 ∨ kd = 5 ∨ kd = 6 := by omega
 ·obtain ⟨b, rfl⟩ := Int.eq_ofNat_of_zero_le (Fs (by kernel_rfl)).1;have DK : b < ns.length := by have := (Fs (by kernel_rfl)).2; omega
  obtain ⟨k0, k1⟩ := EL.d2
  go_wp2_with fail
  clear k0 k1 d1 o1;refine (wX An (some ⟨b0, off, none⟩) As ns.length cn nd cd n c w3.heap.size w3.heap.size w3.heap.size ns ds s w3 FZ.hn FZ.hd FZ.hs lR lR lR FZ.sn FZ.sd (by omega) (fun _ => ⟨by omega, HN.e, HN.ne⟩) (fun _ => ⟨HN.a, HN.k⟩)).mono ?_
  (rintro e w4 ⟨BX, ⟨hne, -⟩ | ⟨-, AC, CL, rfl, Mx, LA⟩⟩; exact absurd H0 hne)
  have Bu := iD (CS.trans (BX.mono CS.size));have KC := iD (Rf.below BX Rf.lt);obtain ⟨g, rfl, -, hg⟩ := wJ Mx (by omega);have AK := yo Mx JS;have Ab := yo Mx DK;have Ta : Hid (Cz (zW ns.length ds s) ⟨nm, 1, a, b, co⟩ = (yw (gI CL a) || yw (gI CL b))) := by unfold Hid Cz; rw [xN LA.out]; exact jE LA JS DK
  have d2 := KC.cell 2;have d3 := KC.cell 3;have PT : yw (gI CL a) = (bits BinOp.and IntKind.i64 (gI CL a) 1 != 0) := rfl;have WE : yw (gI CL b) = (bits BinOp.and IntKind.i64 (gI CL b) 1 != 0) := rfl;rw [PT, WE] at Ta;clear BX Mx LA CS EL BU Rf FZ PT WE;rcases hl : (bits BinOp.and IntKind.i64 (gI CL a) 1 != 0) with _ | _
  ·rw [hl, Bool.false_or] at Ta
   go_wp2_with fail
   go_ret;exact ⟨zE (by rw [Ta.out]; rfl), Bu⟩
  ·rw [hl, Bool.true_or] at Ta
   go_wp2_with fail
   go_ret;exact ⟨zE (by rw [Ta.out]; rfl), Bu⟩
 ·go_wp2_with fail
  go_ret;exact ⟨zE (by rw [← NN.out]; rfl), CS⟩
 ·rcases NM.out with rfl | rfl | rfl | rfl | rfl
  all_goals
   go_wp2_with fail
   go_ret;exact ⟨zE (by rw [← NN.out]; rfl), CS⟩
 ·rcases NM.out with rfl | rfl | rfl | rfl | rfl <;> rcases hp with rfl | rfl
  all_goals
   go_wp2_with fail
   go_ret;exact ⟨zE (by rw [← NN.out]; rfl), CS⟩
 ·go_wp2_with fail
  go_ret;exact ⟨zE (by rw [← NN.out]; rfl), CS⟩
 ·rcases NM.out with rfl | rfl | rfl | rfl | rfl <;> rcases hp with rfl | rfl
  all_goals
   go_wp2_with fail
   go_ret;exact ⟨zE (by rw [← NN.out]; rfl), CS⟩
theorem jQ (l : List Int) (x : Int) : vA l x = decide (x ∈ l) := by rw [Bool.eq_iff_iff, oz]; simp
structure Hy (w : World) (nt op gr dv out : Array Value) (W : World) : Prop where
 bx : Kb w nt op gr W
 br : AJ W (w.heap.size + 3) 99 #[.bool false, .bool false, .bool false, .bool false, .bool false, .bool false, .bool false, .bool false, .bool false]
 bo : AJ W (w.heap.size + 4) 99 out
 bd : AJ W (w.heap.size + 5) 75 dv
section
variable {w W W' : World} {nt op gr dv out : Array Value}
theorem Hy.later (h : Hy w nt op gr dv out W) (hb : bW W W') : Hy w nt op gr dv out W' := ⟨h.bx.later hb, h.br.below hb h.br.lt, h.bo.below hb h.bo.lt, h.bd.below hb h.bd.lt⟩
theorem Kb.far (h : Kb w nt op gr W) {p : Addr} (hp : w.heap.size + 3 ≤ p.block) (u : Value) : Kb w nt op gr (W.setCell p u) := ⟨h.bl.setCell (by omega) u, h.bn.far (by omega) u, h.bo.far (by omega) u, h.bg.far (by omega) u⟩
theorem Hy.set (h : Hy w nt op gr dv out W) (j : Nat) (u : Value) : Hy w nt op gr dv (out.setIfInBounds j u) (W.setCell ⟨w.heap.size + 4, j, none⟩ u) := ⟨h.bx.far (by simp) u, h.br.far (by simp) u, h.bo.set j u, h.bd.far (by simp) u⟩
theorem Hy.drew (h : Hy w nt op gr dv out W) : Hy w nt op gr dv out W.drew := h.later (Below.refl _ _).drew
end
theorem jx (An Ad As Al Ap : Option Addr) (nn cn nd cd n c nl cl np cp i : Nat) (ns : List Nd) (ds : List Dv) (s : List Int) (ls : List Lk) (pr : List Int) (p co : Int) (x : Dv) (w : World) (h : yp w An Ad As Al Ap nn cn nd cd n c nl cl np cp ns ds s ls pr) (h0 : zG ns ds s = 0) (hx : ds[i]? = some x) (hp : p = 1 ∨ p = 2) :
 Calls prog 50 #[.agg #[.slice An nn cn, .slice Ad nd cd], .slice As n c, .agg #[.int .i64 i, .int .i64 p], .agg #[.int .i64 co, .slice Al nl cl, .slice Ap np cp]] w fun e w' => e = .returned (.agg (wE (Mj nn ns ds s i p co ls pr x)).toArray) ∧ bW w w' := by
 obtain ⟨DJ, Ic, FR⟩ := h.ln;subst DJ;have hN := xo.of (zQ h0).1;have hsl := (zQ h0).2;have Mk := List.mem_of_getElem? hx;have IQ := hN.a x Mk;have hi : i < nd := by have := (List.getElem?_eq_some_iff.1 hx).1; omega
 have Gl := hN.nl;have Vr := hN.dl;have HN := iD hN;have GV := iD FR;have Py : nd ≤ n ∧ n ≤ nd := by omega
 have Ig : i < n := by omega
 have Aa : nd ≤ ds.length ∧ ds.length ≤ nd := by omega
 have Ae := iD (Kb.new w #[.slice An ns.length cn, .slice Ad nd cd] #[.int .i64 i, .int .i64 p] #[.int .i64 co, .slice Al nl cl, .slice Ap np cp]);have JO : (((w.alloc (.cells #[.slice An ns.length cn, .slice Ad nd cd] 26)).alloc (.cells #[.int .i64 i, .int .i64 p] 66)).alloc (.cells #[.int .i64 co, .slice Al nl cl, .slice Ap np cp] 29)).heap.size = w.heap.size + 3 := by simp
 generalize Aj : ((w.alloc (.cells #[.slice An ns.length cn, .slice Ad nd cd] 26)).alloc (.cells #[.int .i64 i, .int .i64 p] 66)).alloc (.cells #[.int .i64 co, .slice Al nl cl, .slice Ap np cp] 29) = W3 at *;have AW := iD ((AJ.new W3 99 #[.bool false, .bool false, .bool false, .bool false, .bool false, .bool false, .bool false, .bool false, .bool false]).alloc (.cells #[.bool false, .bool false, .bool false, .bool false, .bool false, .bool false, .bool false, .bool false, .bool false] 99));have AZ := iD (AJ.new (W3.alloc (.cells #[.bool false, .bool false, .bool false, .bool false, .bool false, .bool false, .bool false, .bool false, .bool false] 99)) 99 #[.bool false, .bool false, .bool false, .bool false, .bool false, .bool false, .bool false, .bool false, .bool false]);rw [World.size_alloc, JO] at AZ;rw [JO] at AW
 have Au := iD (Ae.later (((Below.refl _ _).alloc lR (.cells #[.bool false, .bool false, .bool false, .bool false, .bool false, .bool false, .bool false, .bool false, .bool false] 99)).alloc (by simp) (.cells #[.bool false, .bool false, .bool false, .bool false, .bool false, .bool false, .bool false, .bool false, .bool false] 99)));have SA : ((W3.alloc (.cells #[.bool false, .bool false, .bool false, .bool false, .bool false, .bool false, .bool false, .bool false, .bool false] 99)).alloc (.cells #[.bool false, .bool false, .bool false, .bool false, .bool false, .bool false, .bool false, .bool false, .bool false] 99)).heap.size = w.heap.size + 5 := by simp; omega
 subst Aj;have HH := iD h;have HX := iD hx;have H0 := iD h0;clear h hN Mk hx h0 hsl FR Ae JO
 go_enter func50, ntmps50
 go_upto_region 2 with (fail);generalize World.alloc (World.alloc (World.alloc (World.alloc (World.alloc w _) _) _) _) _ = W at *;obtain ⟨b0, off, x', rfl, hb, hx', hc⟩ := (HH.below Au.bl).hd.at (k := i) (fun _ => rfl) (by decide) hi;obtain rfl : x = x' := by have := HX.out; rw [this] at hx'; exact Option.some.inj hx'
 have HF : Hid (∀ s, Mj ns.length ns ds s i p co ls pr x = if s.getD i 0 = p then [false, false, false, false, zk ls i, false, x.comp != co, true, false] else [false, decide (p = 2) && decide (xI ns.length ns ds s i x = 4), ya x.kind p (xI ns.length ns ds s i x) (Cz (zW ns.length ds s) x), ye ns ds s (zX s i p), zk ls i, decide (p = 2) && decide (x.kind = 4) && !vA pr x.a, x.comp != co, false, false]) := fun _ => rfl
 obtain ⟨nm, kd, a, b, BV⟩ := x;simp only at IQ HF;obtain ⟨a, rfl⟩ := Int.eq_ofNat_of_zero_le IQ.1;have c0 : W.cell? ⟨b0, off + i * 5, none⟩ = some (.string nm) := hc 0 _ rfl;have c1 : W.cell? ⟨b0, off + i * 5 + 1, none⟩ = some (.int .i64 kd) := hc 1 _ rfl;have c2 : W.cell? ⟨b0, off + i * 5 + 2, none⟩ = some (.int .i64 a) := hc 2 _ rfl;have c3 : W.cell? ⟨b0, off + i * 5 + 3, none⟩ = some (.int .i64 b) := hc 3 _ rfl;have c4 : W.cell? ⟨b0, off + i * 5 + 4, none⟩ = some (.int .i64 BV) := hc 4 _ rfl;have k1 := Au.bn.cell 1;have o0 := Au.bo.cell 0;clear hc hx' hb;go_upto_region 3 with (fail);clear c0 c1 c2 c3 c4 k1 o0
 have Us : Hid (Hy w #[.slice An ns.length cn, .slice (some ⟨b0, off, none⟩) nd cd] #[.int .i64 i, .int .i64 p] #[.int .i64 co, .slice Al nl cl, .slice Ap np cp] #[.string nm, .int .i64 kd, .int .i64 a, .int .i64 b, .int .i64 BV] #[.bool false, .bool false, .bool false, .bool false, .bool false, .bool false, .bool false, .bool false, .bool false] (W.alloc (.cells #[.string nm, .int .i64 kd, .int .i64 a, .int .i64 b, .int .i64 BV] 75))) := ⟨Au.later ((Below.refl _ _).alloc lR _), AW.alloc _, AZ.alloc _, by have := AJ.new W 75 #[.string nm, .int .i64 kd, .int .i64 a, .int .i64 b, .int .i64 BV]; rw [SA] at this; exact this⟩
 try rw [SA]
 clear Au AW AZ;generalize World.alloc W _ = w2 at *;clear SA;obtain ⟨Ad, Ac⟩ := eX (some (⟨b0, off, none⟩ : Addr));rw [← Ac] at Us HH;clear Ac W;have CG := iD (HH.below Us.bx.bl);obtain ⟨o0, o1⟩ := Us.bx.bo.d2;obtain ⟨g0, g1, g2⟩ := Us.bx.bg.d3
 go_wp2_with fail
 clear o0 o1 g0 g1 g2;refine (ox Al Ap nl cl np cp ls co i w2 CG.hl).mono ?_;rintro e w3 ⟨rfl, BJ⟩;have PZ := iD (Us.later BJ);have FZ := iD (CG.below BJ);clear Us CG BJ;obtain ⟨g0, g1, g2⟩ := PZ.bx.bg.d3;have d1 := PZ.bd.cell 1;have d2 := PZ.bd.cell 2;have d4 := PZ.bd.cell 4;have e4 := PZ.bo.cell 4;have y4 := PZ.bo.frozen 4;have e6 := PZ.bo.cell 6;have y6 := PZ.bo.frozen 6;have KT : Hid (Hy w #[.slice An ns.length cn, .slice Ad nd cd] #[.int .i64 i, .int .i64 p] #[.int .i64 co, .slice Al nl cl, .slice Ap np cp] #[.string nm, .int .i64 kd, .int .i64 a, .int .i64 b, .int .i64 BV] #[.bool false, .bool false, .bool false, .bool false, .bool (zk ls i), .bool false, .bool false, .bool false, .bool false] _) := PZ.set 4 (.bool (zk ls i))
 have Em : Hid (Hy w #[.slice An ns.length cn, .slice Ad nd cd] #[.int .i64 i, .int .i64 p] #[.int .i64 co, .slice Al nl cl, .slice Ap np cp] #[.string nm, .int .i64 kd, .int .i64 a, .int .i64 b, .int .i64 BV] #[.bool false, .bool false, .bool false, .bool false, .bool (zk ls i), .bool false, .bool (BV != co), .bool false, .bool false] _) := KT.set 6 (.bool (BV != co));go_upto_region 5 with (fail);clear g0 g1 g2 d1 d2 d4 e4 y4 e6 y6 PZ KT;generalize World.setCell (World.setCell w3 _ _) _ _ = w6 at *;have Ey := iD (HH.below Em.bx.bl);obtain ⟨bs, os, sv, NB, PR, Lh, hcs⟩ := Ey.hs.at1 (k := i) (by omega);have Af := iD (yM Lh);have QY : Hid (w6.cell? ⟨bs, os + i, none⟩ = some (.int .i64 sv)) := hcs;subst NB;clear hcs Lh PR
 refine fX (fun W' => (W'.cell? ⟨w.heap.size + 1, 0, none⟩ = some (.int .i64 i) ∧ W'.cell? ⟨w.heap.size + 1, 1, none⟩ = some (.int .i64 p)) ∧ W'.cell? ⟨bs, os + i, none⟩ = some (.int .i64 sv)) [] ?_ fun AA => ?_
 ·exact ⟨⟨Em.bx.bo.cell 0, Em.bx.bo.cell 1⟩, QY⟩
 try dsimp only at AA
 refine tk 0 33 (mf 8 1) AA ?_;refine tk 1 34 (mf 8 2) AA ?_;refine tk 5 38 (ma 8 35) AA ?_;refine ty 2 35 (ma 8 39) AA (y := by intro w AR; have o0 := AR.1.1; go_simp; try with_reducible rfl) (h := ?_);refine ty 6 39 (ma 8 103) AA (y := by intro w AR; have o1 := AR.1.2; go_simp; try with_reducible rfl) (h := ?_);refine tk 3 36 (ma 8 111) AA ?_;refine ty 4 37 (mf 8 7) AA (y := by intro w AR; have ss := AR.2; go_simp; try with_reducible rfl) (h := ?_);refine tk 7 40 (mf 8 8) AA ?_;refine tK ?_;have QW := iD Em.drew;clear Em Ey QY FZ;generalize World.drew w6 = w7 at *;have Fh := iD (HH.below QW.bx.bl);by_cases hq : sv = p
 ·have q : (sv == p) = true := by simpa using hq
  have e7 := QW.bo.cell 7;have y7 := QW.bo.frozen 7;have EY : Hid (Hy w #[.slice An ns.length cn, .slice Ad nd cd] #[.int .i64 i, .int .i64 p] #[.int .i64 co, .slice Al nl cl, .slice Ap np cp] #[.string nm, .int .i64 kd, .int .i64 a, .int .i64 b, .int .i64 BV] #[.bool false, .bool false, .bool false, .bool false, .bool (zk ls i), .bool false, .bool (BV != co), .bool true, .bool false] _) := QW.set 7 (.bool (true));go_upto_region 7 with (fail);clear e7 y7 QW Fh;generalize World.setCell w7 _ _ = w8 at *;have e0 := EY.bo.cell 0;have r0 := EY.br.cell 0;have y0 := EY.br.frozen 0;have e1 := EY.bo.cell 1;have r1 := EY.br.cell 1;have y1 := EY.br.frozen 1;have e2 := EY.bo.cell 2;have r2 := EY.br.cell 2;have y2 := EY.br.frozen 2;have e3 := EY.bo.cell 3;have r3 := EY.br.cell 3;have y3 := EY.br.frozen 3;have e4 := EY.bo.cell 4;have r4 := EY.br.cell 4;have y4 := EY.br.frozen 4;have e5 := EY.bo.cell 5
  have r5 := EY.br.cell 5;have y5 := EY.br.frozen 5;have e6 := EY.bo.cell 6;have r6 := EY.br.cell 6;have y6 := EY.br.frozen 6;have e7 := EY.bo.cell 7;have r7 := EY.br.cell 7;have y7 := EY.br.frozen 7;have e8 := EY.bo.cell 8;have r8 := EY.br.cell 8;have y8 := EY.br.frozen 8
  have HX : Hid (Below w.heap.size w (((((((((w8.setCell ⟨w.heap.size + 3, 0, none⟩ (.bool (false))).setCell ⟨w.heap.size + 3, 1, none⟩ (.bool (false))).setCell ⟨w.heap.size + 3, 2, none⟩ (.bool (false))).setCell ⟨w.heap.size + 3, 3, none⟩ (.bool (false))).setCell ⟨w.heap.size + 3, 4, none⟩ (.bool (zk ls i))).setCell ⟨w.heap.size + 3, 5, none⟩ (.bool (false))).setCell ⟨w.heap.size + 3, 6, none⟩ (.bool (BV != co))).setCell ⟨w.heap.size + 3, 7, none⟩ (.bool (true))).setCell ⟨w.heap.size + 3, 8, none⟩ (.bool (false)))) := (((((((((EY.bx.bl.setCell (p := ⟨w.heap.size + 3, 0, none⟩) (by simp) (.bool (false))).setCell (p := ⟨w.heap.size + 3, 1, none⟩) (by simp) (.bool (false))).setCell (p := ⟨w.heap.size + 3, 2, none⟩) (by simp) (.bool (false))).setCell (p := ⟨w.heap.size + 3, 3, none⟩) (by simp) (.bool (false))).setCell (p := ⟨w.heap.size + 3, 4, none⟩) (by simp) (.bool (zk ls i))).setCell (p := ⟨w.heap.size + 3, 5, none⟩) (by simp) (.bool (false))).setCell (p := ⟨w.heap.size + 3, 6, none⟩) (by simp) (.bool (BV != co))).setCell (p := ⟨w.heap.size + 3, 7, none⟩) (by simp) (.bool (true))).setCell (p := ⟨w.heap.size + 3, 8, none⟩) (by simp) (.bool (false)))
  have HR : Hid (Mj ns.length ns ds s i p co ls pr ⟨nm, kd, a, b, BV⟩ = [false, false, false, false, zk ls i, false, BV != co, true, false]) := by
   unfold Hid;rw [HF.out s, if_pos (by rw [Af.out]; exact hq)]
  generalize (zk ls i) = v4 at *;generalize (BV != co) = v6 at *
  go_wp2_with fail
  exact bodyPost_ret (v := .agg #[.bool false, .bool false, .bool false, .bool false, .bool v4, .bool false, .bool v6, .bool true, .bool false]) (by simp [results, results50, go_sem, r0, r1, r2, r3, r4, r5, r6, r7, r8]) rfl ⟨by rw [HR.out]; rfl, HX⟩
 have q : (sv == p) = false := by simpa using hq
 have AB : Hid (¬ s.getD i 0 = p) := by rw [Af.out]; exact hq
 clear hq;obtain ⟨As, NB⟩ := eX (some (⟨bs, os, none⟩ : Addr));rw [← NB] at Fh HH ⊢;clear NB;obtain ⟨k0, k1⟩ := QW.bx.bn.d2;obtain ⟨o0, o1⟩ := QW.bx.bo.d2
 go_wp2_with fail
 clear k0 k1 o0 o1 q;refine (kk An Ad As ns.length cn nd cd n c i ns ds s _ w7 ⟨Fh.hn, Fh.hd, Fh.hs, Sl.nil _ _ _, Sl.nil _ _ _, Fh.la, Fh.sn, Fh.sd⟩ H0 HX).mono ?_;rintro e w8 ⟨rfl, Eu⟩;have EY := iD (QW.later Eu);have TY := iD (Fh.below Eu);have CQ := iD (ki An Ad As ns.length cn nd cd n c i ns ds s p ⟨nm, kd, a, b, BV⟩);obtain ⟨du, Mr⟩ := eX (xI ns.length ns ds s i ⟨nm, kd, a, b, BV⟩);rw [← Mr] at CQ ⊢;have NN := iD Mr;clear Eu QW Fh Mr;obtain ⟨o0, o1⟩ := EY.bx.bo.d2;have e1 := EY.bo.cell 1;have y1 := EY.bo.frozen 1
 have NG : Hid (Hy w #[.slice An ns.length cn, .slice Ad nd cd] #[.int .i64 i, .int .i64 p] #[.int .i64 co, .slice Al nl cl, .slice Ap np cp] #[.string nm, .int .i64 kd, .int .i64 a, .int .i64 b, .int .i64 BV] #[.bool false, .bool (decide (p = 2) && decide (du = 4)), .bool false, .bool false, .bool (zk ls i), .bool false, .bool (BV != co), .bool false, .bool false] _) := EY.set 1 (.bool (decide (p = 2) && decide (du = 4)));rcases hp with rfl | rfl
 ·have Jq : Hid ((decide ((1 : Int) = 2) && decide (du = 4)) = false) := rfl;rw [Jq.out] at NG;go_upto_region 10 with (fail);clear o0 o1 e1 y1 EY;generalize World.setCell w8 _ _ = w9 at *;have Gh := iD (HH.below NG.bx.bl);obtain ⟨k0, k1⟩ := NG.bx.bn.d2;obtain ⟨o0, o1⟩ := NG.bx.bo.d2
  go_wp2_with fail
  clear k0 k1 o0 o1 TY;refine (CQ w9 ⟨Gh.hn, Gh.hd, Gh.hs, Sl.nil _ _ _, Sl.nil _ _ _, Gh.la, Gh.sn, Gh.sd⟩ H0 HX (by simp)).mono ?_;rintro e AG ⟨rfl, Jm⟩;have JE := iD (NG.later Jm);clear Jm NG Gh CQ;have e2 := JE.bo.cell 2;have y2 := JE.bo.frozen 2;have OW : Hid (Hy w #[.slice An ns.length cn, .slice Ad nd cd] #[.int .i64 i, .int .i64 1] #[.int .i64 co, .slice Al nl cl, .slice Ap np cp] #[.string nm, .int .i64 kd, .int .i64 a, .int .i64 b, .int .i64 BV] #[.bool false, .bool false, .bool (ya kd 1 du (Cz (zW ns.length ds s) ⟨nm, kd, a, b, BV⟩)), .bool false, .bool (zk ls i), .bool false, .bool (BV != co), .bool false, .bool false] _) := JE.set 2 (.bool (ya kd 1 du (Cz (zW ns.length ds s) ⟨nm, kd, a, b, BV⟩)));go_upto_region 11 with (fail);clear e2 y2 JE;generalize World.setCell AG _ _ = VH at *;have Ex := iD OW.drew;have FB := iD (HH.below Ex.bx.bl);clear OW
  refine fX (fun W' => ((W'.cell? ⟨w.heap.size, 0, none⟩ = some (.slice An ns.length cn) ∧ W'.cell? ⟨w.heap.size, 1, none⟩ = some (.slice Ad nd cd)) ∧ W'.cell? ⟨w.heap.size + 1, 0, none⟩ = some (.int .i64 i)) ∧ W'.cell? ⟨w.heap.size + 1, 1, none⟩ = some (.int .i64 1)) [] ?_ fun AA => ?_
  ·exact ⟨⟨⟨Ex.bx.bn.cell 0, Ex.bx.bn.cell 1⟩, Ex.bx.bo.cell 0⟩, Ex.bx.bo.cell 1⟩
  try dsimp only at AA
  refine tk 1 66 (ma 16 2) AA ?_;refine tk 2 67 (ma 16 6) AA ?_;refine tk 3 68 (ma 16 14) AA ?_;refine tk 5 70 (ma 16 46) AA ?_;refine ty 0 65 (ma 16 47) AA (y := by intro w AR; have k0 := AR.1.1.1; have k1 := AR.1.1.2; go_simp; try with_reducible rfl) (h := ?_);refine ty 4 69 (mf 16 6) AA (y := by intro w AR; have o0 := AR.1.2; go_simp; try with_reducible rfl) (h := ?_);refine ty 6 71 (mf 16 7) AA (y := by intro w AR; have o1 := AR.2; go_simp; try with_reducible rfl) (h := ?_);refine tb 7 (mf 16 8) fun K hK => ?_
  (go_simp; refine (vK As n c VH.drew.heap.size s i 1 VH.drew FB.hs lR (by omega)).mono ?_; rintro e Rn ⟨Aw, cw, rfl, Iw, Kv⟩; rw [yy, GV.out] at Iw ⊢; have Fu := iD (Ex.later Kv); have Ez := iD (FB.below Kv); have Wo : Hid (Sl Rn Rn.heap.size 1 Aw n cw (zF (zX s i 1))) := Iw.sl; clear Iw Kv Ex FB; go_simp)
  refine hK _ _ (fun _ => ⟨⟨⟨Fu.bx.bn.cell 0, Fu.bx.bn.cell 1⟩, Fu.bx.bo.cell 0⟩, Fu.bx.bo.cell 1⟩) fun p => (fun AA => ?_) (p rfl)
  clear p hK K;(try dsimp only at AA);refine tb 8 (mf 16 9) fun K hK => ?_
  (go_simp; refine (qP An Ad As Aw ns.length cn nd cd n c n cw ns ds s (zX s i 1) Rn Ez.hn Ez.hd Ez.hs Wo Ez.sn Ez.sd (by omega) H0 (yQ H0 i (by simp)) (by omega) (by omega) ⟨HN.e, HN.ne⟩ ⟨HN.a, HN.k⟩).mono ?_; rintro e AE ⟨Ao, mo, Ak, lo, ko, rfl, Nl, SQ, Nk, Ku⟩; have EZ := iD (Fu.later Ku); have Ob := iD (Ez.below Ku); have Gi := iD (tS Nk Nl); clear Nl Nk Ku Fu Ez Wo; go_simp)
  refine hK _ _ (fun _ => ⟨⟨⟨EZ.bx.bn.cell 0, EZ.bx.bn.cell 1⟩, EZ.bx.bo.cell 0⟩, EZ.bx.bo.cell 1⟩) fun p => (fun AA => ?_) (p rfl)
  clear p hK K;(try dsimp only at AA);refine tk 9 64 (mf 16 10) AA ?_;refine tk 10 74 (mf 16 11) AA ?_;refine tk 11 75 (mf 16 12) AA ?_;refine tk 12 76 (mf 16 13) AA ?_;refine tk 13 13 (mf 16 14) AA ?_;refine tk 14 14 (mf 16 15) AA ?_;refine tk 15 15 (mf 16 16) AA ?_;refine tK ?_;have e3 := EZ.bo.cell 3;have y3 := EZ.bo.frozen 3;have BL : Hid (Hy w #[.slice An ns.length cn, .slice Ad nd cd] #[.int .i64 i, .int .i64 1] #[.int .i64 co, .slice Al nl cl, .slice Ap np cp] #[.string nm, .int .i64 kd, .int .i64 a, .int .i64 b, .int .i64 BV] #[.bool false, .bool false, .bool (ya kd 1 du (Cz (zW ns.length ds s) ⟨nm, kd, a, b, BV⟩)), .bool (ye ns ds s (zX s i 1)), .bool (zk ls i), .bool false, .bool (BV != co), .bool false, .bool false] _) := EZ.set 3 (.bool (ye ns ds s (zX s i 1)));rw [← Gi.out] at BL;go_upto_region 13 with (fail);clear e3 y3 EZ SQ;rw [Gi.out] at BL ⊢;clear Gi
  generalize World.setCell AE _ _ = UL at *;rcases QA : (kd == 4) with _ | _
  ·have TP : Hid (decide (kd = 4) = false) := QA;obtain ⟨o0, o1⟩ := BL.bx.bo.d2;obtain ⟨g0, g1, g2⟩ := BL.bx.bg.d3;have d1 := BL.bd.cell 1;have d2 := BL.bd.cell 2;have d4 := BL.bd.cell 4;have e5 := BL.bo.cell 5;have y5 := BL.bo.frozen 5;have AU : Hid (Hy w #[.slice An ns.length cn, .slice Ad nd cd] #[.int .i64 i, .int .i64 1] #[.int .i64 co, .slice Al nl cl, .slice Ap np cp] #[.string nm, .int .i64 kd, .int .i64 a, .int .i64 b, .int .i64 BV] #[.bool false, .bool false, .bool (ya kd 1 du (Cz (zW ns.length ds s) ⟨nm, kd, a, b, BV⟩)), .bool (ye ns ds s (zX s i 1)), .bool (zk ls i), .bool false, .bool (BV != co), .bool false, .bool false] _) := BL.set 5 (.bool (false));go_upto_region 14 with (fail);clear e5 y5 o0 o1 g0 g1 g2 d1 d2 d4 BL Ob;generalize World.setCell UL _ _ = ME at *;have e0 := AU.bo.cell 0;have r0 := AU.br.cell 0;have y0 := AU.br.frozen 0;have e1 := AU.bo.cell 1
   have r1 := AU.br.cell 1;have y1 := AU.br.frozen 1;have e2 := AU.bo.cell 2;have r2 := AU.br.cell 2;have y2 := AU.br.frozen 2;have e3 := AU.bo.cell 3;have r3 := AU.br.cell 3;have y3 := AU.br.frozen 3;have e4 := AU.bo.cell 4;have r4 := AU.br.cell 4;have y4 := AU.br.frozen 4;have e5 := AU.bo.cell 5;have r5 := AU.br.cell 5;have y5 := AU.br.frozen 5;have e6 := AU.bo.cell 6;have r6 := AU.br.cell 6;have y6 := AU.br.frozen 6;have e7 := AU.bo.cell 7;have r7 := AU.br.cell 7;have y7 := AU.br.frozen 7;have e8 := AU.bo.cell 8;have r8 := AU.br.cell 8;have y8 := AU.br.frozen 8
   have HX : Hid (Below w.heap.size w (((((((((ME.setCell ⟨w.heap.size + 3, 0, none⟩ (.bool (false))).setCell ⟨w.heap.size + 3, 1, none⟩ (.bool (false))).setCell ⟨w.heap.size + 3, 2, none⟩ (.bool (ya kd 1 du (Cz (zW ns.length ds s) ⟨nm, kd, a, b, BV⟩)))).setCell ⟨w.heap.size + 3, 3, none⟩ (.bool (ye ns ds s (zX s i 1)))).setCell ⟨w.heap.size + 3, 4, none⟩ (.bool (zk ls i))).setCell ⟨w.heap.size + 3, 5, none⟩ (.bool (false))).setCell ⟨w.heap.size + 3, 6, none⟩ (.bool (BV != co))).setCell ⟨w.heap.size + 3, 7, none⟩ (.bool (false))).setCell ⟨w.heap.size + 3, 8, none⟩ (.bool (false)))) := (((((((((AU.bx.bl.setCell (p := ⟨w.heap.size + 3, 0, none⟩) (by simp) (.bool (false))).setCell (p := ⟨w.heap.size + 3, 1, none⟩) (by simp) (.bool (false))).setCell (p := ⟨w.heap.size + 3, 2, none⟩) (by simp) (.bool (ya kd 1 du (Cz (zW ns.length ds s) ⟨nm, kd, a, b, BV⟩)))).setCell (p := ⟨w.heap.size + 3, 3, none⟩) (by simp) (.bool (ye ns ds s (zX s i 1)))).setCell (p := ⟨w.heap.size + 3, 4, none⟩) (by simp) (.bool (zk ls i))).setCell (p := ⟨w.heap.size + 3, 5, none⟩) (by simp) (.bool (false))).setCell (p := ⟨w.heap.size + 3, 6, none⟩) (by simp) (.bool (BV != co))).setCell (p := ⟨w.heap.size + 3, 7, none⟩) (by simp) (.bool (false))).setCell (p := ⟨w.heap.size + 3, 8, none⟩) (by simp) (.bool (false)))
   have HR : Hid (Mj ns.length ns ds s i 1 co ls pr ⟨nm, kd, a, b, BV⟩ = [false, false, ya kd 1 du (Cz (zW ns.length ds s) ⟨nm, kd, a, b, BV⟩), ye ns ds s (zX s i 1), zk ls i, false, BV != co, false, false]) := by
    unfold Hid;rw [HF.out s, if_neg AB.out, NN.symm, TP.out]; rfl
   generalize (ya kd 1 du (Cz (zW ns.length ds s) ⟨nm, kd, a, b, BV⟩)) = v2 at *;generalize (ye ns ds s (zX s i 1)) = v3 at *;generalize (zk ls i) = v4 at *;generalize (BV != co) = v6 at *
   go_wp2_with fail
   exact bodyPost_ret (v := .agg #[.bool false, .bool false, .bool v2, .bool v3, .bool v4, .bool false, .bool v6, .bool false, .bool false]) (by simp [results, results50, go_sem, r0, r1, r2, r3, r4, r5, r6, r7, r8]) rfl ⟨by rw [HR.out]; rfl, HX⟩
  ·have TP : Hid (decide (kd = 4) = true) := QA;obtain ⟨o0, o1⟩ := BL.bx.bo.d2;obtain ⟨g0, g1, g2⟩ := BL.bx.bg.d3;have d1 := BL.bd.cell 1;have d2 := BL.bd.cell 2;have d4 := BL.bd.cell 4;have e5 := BL.bo.cell 5;have y5 := BL.bo.frozen 5;have AU : Hid (Hy w #[.slice An ns.length cn, .slice Ad nd cd] #[.int .i64 i, .int .i64 1] #[.int .i64 co, .slice Al nl cl, .slice Ap np cp] #[.string nm, .int .i64 kd, .int .i64 a, .int .i64 b, .int .i64 BV] #[.bool false, .bool false, .bool (ya kd 1 du (Cz (zW ns.length ds s) ⟨nm, kd, a, b, BV⟩)), .bool (ye ns ds s (zX s i 1)), .bool (zk ls i), .bool false, .bool (BV != co), .bool false, .bool false] _) := BL.set 5 (.bool (false));go_upto_region 14 with (fail);clear e5 y5 o0 o1 g0 g1 g2 d1 d2 d4 BL Ob;generalize World.setCell UL _ _ = ME at *;have e0 := AU.bo.cell 0;have r0 := AU.br.cell 0;have y0 := AU.br.frozen 0;have e1 := AU.bo.cell 1
   have r1 := AU.br.cell 1;have y1 := AU.br.frozen 1;have e2 := AU.bo.cell 2;have r2 := AU.br.cell 2;have y2 := AU.br.frozen 2;have e3 := AU.bo.cell 3;have r3 := AU.br.cell 3;have y3 := AU.br.frozen 3;have e4 := AU.bo.cell 4;have r4 := AU.br.cell 4;have y4 := AU.br.frozen 4;have e5 := AU.bo.cell 5;have r5 := AU.br.cell 5;have y5 := AU.br.frozen 5;have e6 := AU.bo.cell 6;have r6 := AU.br.cell 6;have y6 := AU.br.frozen 6;have e7 := AU.bo.cell 7;have r7 := AU.br.cell 7;have y7 := AU.br.frozen 7;have e8 := AU.bo.cell 8;have r8 := AU.br.cell 8;have y8 := AU.br.frozen 8
   have HX : Hid (Below w.heap.size w (((((((((ME.setCell ⟨w.heap.size + 3, 0, none⟩ (.bool (false))).setCell ⟨w.heap.size + 3, 1, none⟩ (.bool (false))).setCell ⟨w.heap.size + 3, 2, none⟩ (.bool (ya kd 1 du (Cz (zW ns.length ds s) ⟨nm, kd, a, b, BV⟩)))).setCell ⟨w.heap.size + 3, 3, none⟩ (.bool (ye ns ds s (zX s i 1)))).setCell ⟨w.heap.size + 3, 4, none⟩ (.bool (zk ls i))).setCell ⟨w.heap.size + 3, 5, none⟩ (.bool (false))).setCell ⟨w.heap.size + 3, 6, none⟩ (.bool (BV != co))).setCell ⟨w.heap.size + 3, 7, none⟩ (.bool (false))).setCell ⟨w.heap.size + 3, 8, none⟩ (.bool (false)))) := (((((((((AU.bx.bl.setCell (p := ⟨w.heap.size + 3, 0, none⟩) (by simp) (.bool (false))).setCell (p := ⟨w.heap.size + 3, 1, none⟩) (by simp) (.bool (false))).setCell (p := ⟨w.heap.size + 3, 2, none⟩) (by simp) (.bool (ya kd 1 du (Cz (zW ns.length ds s) ⟨nm, kd, a, b, BV⟩)))).setCell (p := ⟨w.heap.size + 3, 3, none⟩) (by simp) (.bool (ye ns ds s (zX s i 1)))).setCell (p := ⟨w.heap.size + 3, 4, none⟩) (by simp) (.bool (zk ls i))).setCell (p := ⟨w.heap.size + 3, 5, none⟩) (by simp) (.bool (false))).setCell (p := ⟨w.heap.size + 3, 6, none⟩) (by simp) (.bool (BV != co))).setCell (p := ⟨w.heap.size + 3, 7, none⟩) (by simp) (.bool (false))).setCell (p := ⟨w.heap.size + 3, 8, none⟩) (by simp) (.bool (false)))
   have HR : Hid (Mj ns.length ns ds s i 1 co ls pr ⟨nm, kd, a, b, BV⟩ = [false, false, ya kd 1 du (Cz (zW ns.length ds s) ⟨nm, kd, a, b, BV⟩), ye ns ds s (zX s i 1), zk ls i, false, BV != co, false, false]) := by
    unfold Hid;rw [HF.out s, if_neg AB.out, NN.symm, TP.out]; rfl
   generalize (ya kd 1 du (Cz (zW ns.length ds s) ⟨nm, kd, a, b, BV⟩)) = v2 at *;generalize (ye ns ds s (zX s i 1)) = v3 at *;generalize (zk ls i) = v4 at *;generalize (BV != co) = v6 at *
   go_wp2_with fail
   exact bodyPost_ret (v := .agg #[.bool false, .bool false, .bool v2, .bool v3, .bool v4, .bool false, .bool v6, .bool false, .bool false]) (by simp [results, results50, go_sem, r0, r1, r2, r3, r4, r5, r6, r7, r8]) rfl ⟨by rw [HR.out]; rfl, HX⟩
 ·have Jq : Hid ((decide ((2 : Int) = 2) && decide (du = 4)) = (du == 4)) := rfl;rw [Jq.out] at NG;go_upto_region 10 with (fail);clear o0 o1 e1 y1 EY;generalize World.setCell w8 _ _ = w9 at *;have Gh := iD (HH.below NG.bx.bl);obtain ⟨k0, k1⟩ := NG.bx.bn.d2;obtain ⟨o0, o1⟩ := NG.bx.bo.d2
  go_wp2_with fail
  clear k0 k1 o0 o1 TY;refine (CQ w9 ⟨Gh.hn, Gh.hd, Gh.hs, Sl.nil _ _ _, Sl.nil _ _ _, Gh.la, Gh.sn, Gh.sd⟩ H0 HX (by simp)).mono ?_;rintro e AG ⟨rfl, Jm⟩;have JE := iD (NG.later Jm);clear Jm NG Gh CQ;have e2 := JE.bo.cell 2;have y2 := JE.bo.frozen 2;have OW : Hid (Hy w #[.slice An ns.length cn, .slice Ad nd cd] #[.int .i64 i, .int .i64 2] #[.int .i64 co, .slice Al nl cl, .slice Ap np cp] #[.string nm, .int .i64 kd, .int .i64 a, .int .i64 b, .int .i64 BV] #[.bool false, .bool (du == 4), .bool (ya kd 2 du (Cz (zW ns.length ds s) ⟨nm, kd, a, b, BV⟩)), .bool false, .bool (zk ls i), .bool false, .bool (BV != co), .bool false, .bool false] _) := JE.set 2 (.bool (ya kd 2 du (Cz (zW ns.length ds s) ⟨nm, kd, a, b, BV⟩)));go_upto_region 11 with (fail);clear e2 y2 JE;generalize World.setCell AG _ _ = VH at *;have Ex := iD OW.drew;have FB := iD (HH.below Ex.bx.bl);clear OW
  refine fX (fun W' => ((W'.cell? ⟨w.heap.size, 0, none⟩ = some (.slice An ns.length cn) ∧ W'.cell? ⟨w.heap.size, 1, none⟩ = some (.slice Ad nd cd)) ∧ W'.cell? ⟨w.heap.size + 1, 0, none⟩ = some (.int .i64 i)) ∧ W'.cell? ⟨w.heap.size + 1, 1, none⟩ = some (.int .i64 2)) [] ?_ fun AA => ?_
  ·exact ⟨⟨⟨Ex.bx.bn.cell 0, Ex.bx.bn.cell 1⟩, Ex.bx.bo.cell 0⟩, Ex.bx.bo.cell 1⟩
  try dsimp only at AA
  refine tk 1 66 (ma 16 2) AA ?_;refine tk 2 67 (ma 16 6) AA ?_;refine tk 3 68 (ma 16 14) AA ?_;refine tk 5 70 (ma 16 46) AA ?_;refine ty 0 65 (ma 16 47) AA (y := by intro w AR; have k0 := AR.1.1.1; have k1 := AR.1.1.2; go_simp; try with_reducible rfl) (h := ?_);refine ty 4 69 (mf 16 6) AA (y := by intro w AR; have o0 := AR.1.2; go_simp; try with_reducible rfl) (h := ?_);refine ty 6 71 (mf 16 7) AA (y := by intro w AR; have o1 := AR.2; go_simp; try with_reducible rfl) (h := ?_);refine tb 7 (mf 16 8) fun K hK => ?_
  (go_simp; refine (vK As n c VH.drew.heap.size s i 2 VH.drew FB.hs lR (by omega)).mono ?_; rintro e Rn ⟨Aw, cw, rfl, Iw, Kv⟩; rw [yy, GV.out] at Iw ⊢; have Fu := iD (Ex.later Kv); have Ez := iD (FB.below Kv); have Wo : Hid (Sl Rn Rn.heap.size 1 Aw n cw (zF (zX s i 2))) := Iw.sl; clear Iw Kv Ex FB; go_simp)
  refine hK _ _ (fun _ => ⟨⟨⟨Fu.bx.bn.cell 0, Fu.bx.bn.cell 1⟩, Fu.bx.bo.cell 0⟩, Fu.bx.bo.cell 1⟩) fun p => (fun AA => ?_) (p rfl)
  clear p hK K;(try dsimp only at AA);refine tb 8 (mf 16 9) fun K hK => ?_
  (go_simp; refine (qP An Ad As Aw ns.length cn nd cd n c n cw ns ds s (zX s i 2) Rn Ez.hn Ez.hd Ez.hs Wo Ez.sn Ez.sd (by omega) H0 (yQ H0 i (by simp)) (by omega) (by omega) ⟨HN.e, HN.ne⟩ ⟨HN.a, HN.k⟩).mono ?_; rintro e AE ⟨Ao, mo, Ak, lo, ko, rfl, Nl, SQ, Nk, Ku⟩; have EZ := iD (Fu.later Ku); have Ob := iD (Ez.below Ku); have Gi := iD (tS Nk Nl); clear Nl Nk Ku Fu Ez Wo; go_simp)
  refine hK _ _ (fun _ => ⟨⟨⟨EZ.bx.bn.cell 0, EZ.bx.bn.cell 1⟩, EZ.bx.bo.cell 0⟩, EZ.bx.bo.cell 1⟩) fun p => (fun AA => ?_) (p rfl)
  clear p hK K;(try dsimp only at AA);refine tk 9 64 (mf 16 10) AA ?_;refine tk 10 74 (mf 16 11) AA ?_;refine tk 11 75 (mf 16 12) AA ?_;refine tk 12 76 (mf 16 13) AA ?_;refine tk 13 13 (mf 16 14) AA ?_;refine tk 14 14 (mf 16 15) AA ?_;refine tk 15 15 (mf 16 16) AA ?_;refine tK ?_;have e3 := EZ.bo.cell 3;have y3 := EZ.bo.frozen 3;have BL : Hid (Hy w #[.slice An ns.length cn, .slice Ad nd cd] #[.int .i64 i, .int .i64 2] #[.int .i64 co, .slice Al nl cl, .slice Ap np cp] #[.string nm, .int .i64 kd, .int .i64 a, .int .i64 b, .int .i64 BV] #[.bool false, .bool (du == 4), .bool (ya kd 2 du (Cz (zW ns.length ds s) ⟨nm, kd, a, b, BV⟩)), .bool (ye ns ds s (zX s i 2)), .bool (zk ls i), .bool false, .bool (BV != co), .bool false, .bool false] _) := EZ.set 3 (.bool (ye ns ds s (zX s i 2)));rw [← Gi.out] at BL;go_upto_region 13 with (fail);clear e3 y3 EZ SQ;rw [Gi.out] at BL ⊢;clear Gi
  generalize World.setCell AE _ _ = UL at *;rcases QA : (kd == 4) with _ | _
  ·have TP : Hid (decide (kd = 4) = false) := QA;obtain ⟨o0, o1⟩ := BL.bx.bo.d2;obtain ⟨g0, g1, g2⟩ := BL.bx.bg.d3;have d1 := BL.bd.cell 1;have d2 := BL.bd.cell 2;have d4 := BL.bd.cell 4;have e5 := BL.bo.cell 5;have y5 := BL.bo.frozen 5;have AU : Hid (Hy w #[.slice An ns.length cn, .slice Ad nd cd] #[.int .i64 i, .int .i64 2] #[.int .i64 co, .slice Al nl cl, .slice Ap np cp] #[.string nm, .int .i64 kd, .int .i64 a, .int .i64 b, .int .i64 BV] #[.bool false, .bool (du == 4), .bool (ya kd 2 du (Cz (zW ns.length ds s) ⟨nm, kd, a, b, BV⟩)), .bool (ye ns ds s (zX s i 2)), .bool (zk ls i), .bool false, .bool (BV != co), .bool false, .bool false] _) := BL.set 5 (.bool (false));go_upto_region 14 with (fail);clear e5 y5 o0 o1 g0 g1 g2 d1 d2 d4 BL Ob;generalize World.setCell UL _ _ = ME at *;have e0 := AU.bo.cell 0;have r0 := AU.br.cell 0;have y0 := AU.br.frozen 0;have e1 := AU.bo.cell 1
   have r1 := AU.br.cell 1;have y1 := AU.br.frozen 1;have e2 := AU.bo.cell 2;have r2 := AU.br.cell 2;have y2 := AU.br.frozen 2;have e3 := AU.bo.cell 3;have r3 := AU.br.cell 3;have y3 := AU.br.frozen 3;have e4 := AU.bo.cell 4;have r4 := AU.br.cell 4;have y4 := AU.br.frozen 4;have e5 := AU.bo.cell 5;have r5 := AU.br.cell 5;have y5 := AU.br.frozen 5;have e6 := AU.bo.cell 6;have r6 := AU.br.cell 6;have y6 := AU.br.frozen 6;have e7 := AU.bo.cell 7;have r7 := AU.br.cell 7;have y7 := AU.br.frozen 7;have e8 := AU.bo.cell 8;have r8 := AU.br.cell 8;have y8 := AU.br.frozen 8
   have HX : Hid (Below w.heap.size w (((((((((ME.setCell ⟨w.heap.size + 3, 0, none⟩ (.bool (false))).setCell ⟨w.heap.size + 3, 1, none⟩ (.bool (du == 4))).setCell ⟨w.heap.size + 3, 2, none⟩ (.bool (ya kd 2 du (Cz (zW ns.length ds s) ⟨nm, kd, a, b, BV⟩)))).setCell ⟨w.heap.size + 3, 3, none⟩ (.bool (ye ns ds s (zX s i 2)))).setCell ⟨w.heap.size + 3, 4, none⟩ (.bool (zk ls i))).setCell ⟨w.heap.size + 3, 5, none⟩ (.bool (false))).setCell ⟨w.heap.size + 3, 6, none⟩ (.bool (BV != co))).setCell ⟨w.heap.size + 3, 7, none⟩ (.bool (false))).setCell ⟨w.heap.size + 3, 8, none⟩ (.bool (false)))) := (((((((((AU.bx.bl.setCell (p := ⟨w.heap.size + 3, 0, none⟩) (by simp) (.bool (false))).setCell (p := ⟨w.heap.size + 3, 1, none⟩) (by simp) (.bool (du == 4))).setCell (p := ⟨w.heap.size + 3, 2, none⟩) (by simp) (.bool (ya kd 2 du (Cz (zW ns.length ds s) ⟨nm, kd, a, b, BV⟩)))).setCell (p := ⟨w.heap.size + 3, 3, none⟩) (by simp) (.bool (ye ns ds s (zX s i 2)))).setCell (p := ⟨w.heap.size + 3, 4, none⟩) (by simp) (.bool (zk ls i))).setCell (p := ⟨w.heap.size + 3, 5, none⟩) (by simp) (.bool (false))).setCell (p := ⟨w.heap.size + 3, 6, none⟩) (by simp) (.bool (BV != co))).setCell (p := ⟨w.heap.size + 3, 7, none⟩) (by simp) (.bool (false))).setCell (p := ⟨w.heap.size + 3, 8, none⟩) (by simp) (.bool (false)))
   have HR : Hid (Mj ns.length ns ds s i 2 co ls pr ⟨nm, kd, a, b, BV⟩ = [false, du == 4, ya kd 2 du (Cz (zW ns.length ds s) ⟨nm, kd, a, b, BV⟩), ye ns ds s (zX s i 2), zk ls i, false, BV != co, false, false]) := by
    unfold Hid;rw [HF.out s, if_neg AB.out, NN.symm, TP.out]; rfl
   generalize (du == 4) = v1 at *;generalize (ya kd 2 du (Cz (zW ns.length ds s) ⟨nm, kd, a, b, BV⟩)) = v2 at *;generalize (ye ns ds s (zX s i 2)) = v3 at *;generalize (zk ls i) = v4 at *;generalize (BV != co) = v6 at *
   go_wp2_with fail
   exact bodyPost_ret (v := .agg #[.bool false, .bool v1, .bool v2, .bool v3, .bool v4, .bool false, .bool v6, .bool false, .bool false]) (by simp [results, results50, go_sem, r0, r1, r2, r3, r4, r5, r6, r7, r8]) rfl ⟨by rw [HR.out]; rfl, HX⟩
  ·have TP : Hid (decide (kd = 4) = true) := QA;obtain ⟨o0, o1⟩ := BL.bx.bo.d2;obtain ⟨g0, g1, g2⟩ := BL.bx.bg.d3;have d1 := BL.bd.cell 1;have d2 := BL.bd.cell 2;have d4 := BL.bd.cell 4;have e5 := BL.bo.cell 5;have y5 := BL.bo.frozen 5
   go_wp2_with fail
   clear o0 o1 g0 g1 g2 d1 d2 d4 e5 y5;refine (tN Ap np cp pr a UL (HH.below BL.bx.bl).hp).mono ?_;rintro e Am ⟨rfl, rfl⟩;have e5 := BL.bo.cell 5;have y5 := BL.bo.frozen 5;have AU : Hid (Hy w #[.slice An ns.length cn, .slice Ad nd cd] #[.int .i64 i, .int .i64 2] #[.int .i64 co, .slice Al nl cl, .slice Ap np cp] #[.string nm, .int .i64 kd, .int .i64 a, .int .i64 b, .int .i64 BV] #[.bool false, .bool (du == 4), .bool (ya kd 2 du (Cz (zW ns.length ds s) ⟨nm, kd, a, b, BV⟩)), .bool (ye ns ds s (zX s i 2)), .bool (zk ls i), .bool (!(decide ((a : Int) ∈ pr))), .bool (BV != co), .bool false, .bool false] _) := BL.set 5 (.bool (!(decide ((a : Int) ∈ pr))));go_upto_region 14 with (fail);clear e5 y5 BL Ob;generalize World.setCell UL _ _ = ME at *;have e0 := AU.bo.cell 0;have r0 := AU.br.cell 0;have y0 := AU.br.frozen 0;have e1 := AU.bo.cell 1;have r1 := AU.br.cell 1;have y1 := AU.br.frozen 1
   have e2 := AU.bo.cell 2;have r2 := AU.br.cell 2;have y2 := AU.br.frozen 2;have e3 := AU.bo.cell 3;have r3 := AU.br.cell 3;have y3 := AU.br.frozen 3;have e4 := AU.bo.cell 4;have r4 := AU.br.cell 4;have y4 := AU.br.frozen 4;have e5 := AU.bo.cell 5;have r5 := AU.br.cell 5;have y5 := AU.br.frozen 5;have e6 := AU.bo.cell 6;have r6 := AU.br.cell 6;have y6 := AU.br.frozen 6;have e7 := AU.bo.cell 7;have r7 := AU.br.cell 7;have y7 := AU.br.frozen 7;have e8 := AU.bo.cell 8;have r8 := AU.br.cell 8;have y8 := AU.br.frozen 8
   have HX : Hid (Below w.heap.size w (((((((((ME.setCell ⟨w.heap.size + 3, 0, none⟩ (.bool (false))).setCell ⟨w.heap.size + 3, 1, none⟩ (.bool (du == 4))).setCell ⟨w.heap.size + 3, 2, none⟩ (.bool (ya kd 2 du (Cz (zW ns.length ds s) ⟨nm, kd, a, b, BV⟩)))).setCell ⟨w.heap.size + 3, 3, none⟩ (.bool (ye ns ds s (zX s i 2)))).setCell ⟨w.heap.size + 3, 4, none⟩ (.bool (zk ls i))).setCell ⟨w.heap.size + 3, 5, none⟩ (.bool (!(decide ((a : Int) ∈ pr))))).setCell ⟨w.heap.size + 3, 6, none⟩ (.bool (BV != co))).setCell ⟨w.heap.size + 3, 7, none⟩ (.bool (false))).setCell ⟨w.heap.size + 3, 8, none⟩ (.bool (false)))) := (((((((((AU.bx.bl.setCell (p := ⟨w.heap.size + 3, 0, none⟩) (by simp) (.bool (false))).setCell (p := ⟨w.heap.size + 3, 1, none⟩) (by simp) (.bool (du == 4))).setCell (p := ⟨w.heap.size + 3, 2, none⟩) (by simp) (.bool (ya kd 2 du (Cz (zW ns.length ds s) ⟨nm, kd, a, b, BV⟩)))).setCell (p := ⟨w.heap.size + 3, 3, none⟩) (by simp) (.bool (ye ns ds s (zX s i 2)))).setCell (p := ⟨w.heap.size + 3, 4, none⟩) (by simp) (.bool (zk ls i))).setCell (p := ⟨w.heap.size + 3, 5, none⟩) (by simp) (.bool (!(decide ((a : Int) ∈ pr))))).setCell (p := ⟨w.heap.size + 3, 6, none⟩) (by simp) (.bool (BV != co))).setCell (p := ⟨w.heap.size + 3, 7, none⟩) (by simp) (.bool (false))).setCell (p := ⟨w.heap.size + 3, 8, none⟩) (by simp) (.bool (false)))
   have HR : Hid (Mj ns.length ns ds s i 2 co ls pr ⟨nm, kd, a, b, BV⟩ = [false, du == 4, ya kd 2 du (Cz (zW ns.length ds s) ⟨nm, kd, a, b, BV⟩), ye ns ds s (zX s i 2), zk ls i, !(decide ((a : Int) ∈ pr)), BV != co, false, false]) := by
    unfold Hid;rw [HF.out s, if_neg AB.out, NN.symm, TP.out, jQ]; rfl
   generalize (du == 4) = v1 at *;generalize (ya kd 2 du (Cz (zW ns.length ds s) ⟨nm, kd, a, b, BV⟩)) = v2 at *;generalize (ye ns ds s (zX s i 2)) = v3 at *;generalize (zk ls i) = v4 at *;generalize (!(decide ((a : Int) ∈ pr))) = v5 at *;generalize (BV != co) = v6 at *
   go_wp2_with fail
   exact bodyPost_ret (v := .agg #[.bool false, .bool v1, .bool v2, .bool v3, .bool v4, .bool v5, .bool v6, .bool false, .bool false]) (by simp [results, results50, go_sem, r0, r1, r2, r3, r4, r5, r6, r7, r8]) rfl ⟨by rw [HR.out]; rfl, HX⟩
theorem gu {l : List Bool} (h : l.length = 9) : ∃ b0 b1 b2 b3 b4 b5 b6 b7 b8, l = [b0, b1, b2, b3, b4, b5, b6, b7, b8] := by
 rcases l with _ | ⟨b0, _ | ⟨b1, _ | ⟨b2, _ | ⟨b3, _ | ⟨b4, _ | ⟨b5, _ | ⟨b6, _ | ⟨b7, _ | ⟨b8, _ | ⟨b9, l⟩⟩⟩⟩⟩⟩⟩⟩⟩⟩
 all_goals first | exact ⟨_, _, _, _, _, _, _, _, _, rfl⟩ | (simp at h)
theorem im {An Ad As Al Ap : Option Addr} {nn cn nd cd n c nl cl np cp : Nat} {ns : List Nd} {ds : List Dv} {s : List Int} {ls : List Lk} {pr : List Int} {w : World} (h : yp w An Ad As Al Ap nn cn nd cd n c nl cl np cp ns ds s ls pr) (h0 : zG ns ds s = 0) {d p co : Int} (he : yx nd d p co = 0) :
 ∃ x : Dv, ds[d.toNat]? = some x ∧ Calls prog 50 #[.agg #[.slice An nn cn, .slice Ad nd cd], .slice As n c, .agg #[.int .i64 d, .int .i64 p], .agg #[.int .i64 co, .slice Al nl cl, .slice Ap np cp]] w fun e w' => ∃ b0 b1 b2 b3 b4 b5 b6 b7 b8, Mj nn ns ds s d.toNat p co ls pr x = [b0, b1, b2, b3, b4, b5, b6, b7, b8] ∧ e = .returned (.agg #[.bool b0, .bool b1, .bool b2, .bool b3, .bool b4, .bool b5, .bool b6, .bool b7, .bool b8]) ∧ Hid (bW w w') := by
 obtain ⟨h1, h2, h3⟩ := h.ln;obtain ⟨hd, hp, _⟩ := ou he;obtain ⟨k, rfl⟩ := Int.eq_ofNat_of_zero_le hd.1;have hk : k < ds.length := by omega
 have hx : ds[k]? = some (ds[k]'hk) := List.getElem?_eq_getElem hk;refine ⟨_, hx, ?_⟩;refine (jx An Ad As Al Ap nn cn nd cd n c nl cl np cp k ns ds s ls pr p co _ w h h0 hx hp).mono ?_;rintro e w' ⟨rfl, hb⟩;obtain ⟨b0, b1, b2, b3, b4, b5, b6, b7, b8, hl⟩ := gu (iL nn ns ds s k p co ls pr (ds[k]'hk));exact ⟨b0, b1, b2, b3, b4, b5, b6, b7, b8, hl, by rw [hl]; rfl, hb⟩
theorem mj (An Ad As Al Ap : Option Addr) (nn cn nd cd n c nl cl np cp : Nat) (ns : List Nd) (ds : List Dv) (s : List Int) (ls : List Lk) (pr : List Int) (d p co : Int) (w : World) (h : yp w An Ad As Al Ap nn cn nd cd n c nl cl np cp ns ds s ls pr) :
 Calls prog 26 #[.agg #[.slice An nn cn, .slice Ad nd cd], .slice As n c, .agg #[.int .i64 d, .int .i64 p], .agg #[.int .i64 co, .slice Al nl cl, .slice Ap np cp]] w (jn w ns ds s d p co ls pr) := by
 obtain ⟨DJ, Ic, FR⟩ := h.ln;have Vg := h.hd.le;have HB := iD (Kb.new w #[.slice An nn cn, .slice Ad nd cd] #[.int .i64 d, .int .i64 p] #[.int .i64 co, .slice Al nl cl, .slice Ap np cp]);have HH := iD h;clear h;have IZ : Hid (xh ns ds s d p co = if zG ns ds s = 0 then yx nd d p co else zG ns ds s) := by unfold Hid xh; rw [Ic]
 go_enter func26, ntmps26
 go_wp2_with fail
 generalize World.alloc (World.alloc (World.alloc w _) _) _ = W at *;have HM := iD (HH.below HB.bl);have HC := iD (vW An Ad As nn cn nd cd n c W.heap.size W.heap.size W.heap.size ns ds s W HM.hn HM.hd HM.hs lR lR lR HM.sn HM.sd);refine HC.mono ?_;rintro e w1 ⟨rfl, AX⟩;have AL := iD (HB.later AX);clear AX HC HM HB;by_cases h0 : zG ns ds s = 0; rotate_left
 ·have q : (zG ns ds s == 0) = false := by simpa using h0
  have q2 : (zG ns ds s != 0) = true := by simpa using h0
  have HR : Hid (xh ns ds s d p co = zG ns ds s) := by unfold Hid; rw [IZ.out, if_neg h0]
  have H0 := iD h0;clear h0 IZ
  go_wp2_with fail
  go_ret2;exact ⟨.inl ⟨by rw [HR.out]; exact H0, by rw [HR.out]; rfl⟩, AL.bl⟩
 have HR : Hid (xh ns ds s d p co = yx nd d p co) := by unfold Hid; rw [IZ.out, if_pos h0]
 have H0 := iD h0;clear IZ;rw [h0];clear h0;obtain ⟨⟨k0, k1⟩, ⟨o0, o1⟩, g0, g1, g2⟩ := AL.cells
 go_wp2_with fail
 clear k0 k1 o0 o1 g0 g1 g2;refine (mH An Ad Al Ap nn cn nd cd nl cl np cp d p co w1 (by omega)).mono ?_;rintro e w2 ⟨rfl, AQ⟩;have AY := iD (AL.later AQ);clear AQ AL;by_cases he : yx nd d p co = 0; rotate_left
 ·have q : (yx nd d p co != 0) = true := by simpa using he
  have HE := iD he;clear he
  go_wp2_with fail
  go_ret2;exact ⟨.inl ⟨by rw [HR.out]; exact HE, by rw [HR.out]; rfl⟩, AY.bl⟩
 have HE := iD he;rw [he] at HR ⊢;clear he;obtain ⟨x, hx, Ig⟩ := im (HH.below AY.bl) H0 HE.out;have Lv := iD Ig; have HX := iD hx;clear Ig hx;obtain ⟨⟨k0, k1⟩, ⟨o0, o1⟩, g0, g1, g2⟩ := AY.cells
 go_wp2_with fail
 clear k0 k1 o0 o1 g0 g1 g2;refine Lv.mono ?_;rintro e w3 ⟨b0, b1, b2, b3, b4, b5, b6, b7, b8, hF, rfl, BJ⟩;have HF := iD hF;clear hF
 go_wp2_with fail
 refine (lX b0 b1 b2 b3 b4 b5 b6 b7 b8 w3).mono ?_;rintro e w4 ⟨A, ca, rfl, hO, BX⟩;rw [← HF.out, iz] at hO ⊢;have CS := iD (AY.bl.trans (BJ.mono AY.bl.size))
 go_wp2_with fail
 go_ret2;exact ⟨.inr ⟨HR, A, _, ca, x, HX, rfl, by subst DJ; exact hO.mono CS.size⟩, CS.trans (BX.mono CS.size)⟩
end Go.Proofs.YtddddlhgaeameaaGreatDoor
