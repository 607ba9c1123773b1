import Derived.Test.YtddddlhgaeameaaGreatDoorM44
set_option maxRecDepth 100000
set_option maxHeartbeats 16000000
namespace Go.Proofs.YtddddlhgaeameaaGreatDoor
section
open Go.RowKit
def gI (l : List Int) (k : Nat) : Int := l.getD k 0
theorem yf {w : World} {base n c i g : Nat} {l : List Int} (h : zU w base (some ⟨g, 0, none⟩) n c l) (hi : i < n) : w.cell? ⟨g, i, none⟩ = some (.int .i64 (gI l i)) := by
 obtain ⟨g', x, e, _, _, hx, hc, _⟩ := h.at hi
 injection e with e; injection e with e; subst e
 unfold gI
 rw [List.getD_eq_getElem?_getD, hx]; exact hc
section
variable {kd a b : Int} {ns : List Nd} {parts op cl : List Int}
theorem tp (h : xE kd a b cl = true) : xN kd a b ns parts op cl = 4 := by unfold xN; rw [if_pos h]
theorem qE (hf : xE kd a b cl = false) (h : sOk kd a b parts = false) : xN kd a b ns parts op cl = 0 := by
 unfold xN tz wP dOk; rw [hf, h]; simp
theorem qD (hf : xE kd a b cl = false) (h : sOk kd a b parts = true) (h0 : sL0 kd a op = true) (h1 : sL1 kd a b op = true) : xN kd a b ns parts op cl = 3 := by
 unfold xN tz; rw [hf, h, h0, h1]; rfl
theorem nM (hf : xE kd a b cl = false) (h0 : sL0 kd a op = false) (h1 : sL1 kd a b op = false) : xN kd a b ns parts op cl = 0 := by
 unfold xN tz wP dOk; rw [hf, h0, h1]; simp
theorem ue (hf : xE kd a b cl = false) (h : sOk kd a b parts = true) (h0 : sL0 kd a op ≠ sL1 kd a b op) (hl : xW kd a b ns parts op ns.length) : xN kd a b ns parts op cl = 2 := by
 have hd : dOk kd a b parts op = true := by unfold dOk; rw [h]; simpa using h0
 have hp : tz kd a b parts op = false := by unfold tz; rw [h]; revert h0; cases sL0 kd a op <;> cases sL1 kd a b op <;> simp
 have hl2 : wP kd a b ns parts op = true := by unfold wP; rw [hd]; simpa using hl
 unfold xN; rw [hf, hp, hl2]; rfl
theorem tU (hf : xE kd a b cl = false) (h : sOk kd a b parts = true) (h0 : sL0 kd a op ≠ sL1 kd a b op) (hl : ¬ xW kd a b ns parts op ns.length) : xN kd a b ns parts op cl = 1 := by
 have hd : dOk kd a b parts op = true := by unfold dOk; rw [h]; simpa using h0
 have hp : tz kd a b parts op = false := by unfold tz; rw [h]; revert h0; cases sL0 kd a op <;> cases sL1 kd a b op <;> simp
 have hl2 : wP kd a b ns parts op = false := by unfold wP; rw [hd]; simpa using hl
 unfold xN; rw [hf, hp, hl2, hd]; rfl
end
def jr (w : World) (ns : List Nd) (P : List Int) (dv : Int) (gk : Nat) (iv : Value) (wr : World) : Prop := ∃ v : Nat, iv = .int .i64 v ∧ v ≤ ns.length ∧ gk = ns.length - v ∧ wr = w ∧ Hid (¬ ∃ (i : Nat) (x : Nd), i < v ∧ ns[i]? = some x ∧ 0 < x.cust ∧ gI P i = dv)
theorem lX (An Ad As : Option Addr) (nn cn nd cd n c i : Nat) (ns : List Nd) (ds : List Dv) (s : List Int) (x : Dv) (w : World) (h : yp w An Ad As none none nn cn nd cd n c 0 0 0 0 ns ds s [] []) (h0 : zL ns ds s = 0) (hx : ds[i]? = some x) :
 Calls Tryz.prog 73 #[.agg #[.slice An nn cn, .slice Ad nd cd], .slice As n c, .int .i64 i] w fun e w' => e = .returned (.tuple #[.int .i64 (xG nn ns ds s i x), .int .i64 0]) ∧ Below w.heap.size w w' := by
 obtain ⟨hln, hld, hls⟩ := h.ln
 subst hln
 have hN := wL.of (za h0).1
 have hsl := (za h0).2
 have hxm := List.mem_of_getElem? hx
 have ha0 := hN.a x hxm
 have hk0 := hN.k x hxm
 have hb0 : zX x.kind = true → 0 ≤ x.b ∧ x.b < ns.length := fun hj => (hN.e x hxm hj).2
 have hi : i < nd := by have := (List.getElem?_eq_some_iff.1 hx).1; omega
 have hnl := hN.nl
 have hdl := hN.dl
 have HN := iD hN
 have HLS := iD hls
 have hndn : nd ≤ n ∧ n ≤ nd := by omega
 have HB : Hid (Below w.heap.size w (w.alloc (.cells #[.slice An ns.length cn, .slice Ad nd cd] 26))) := (Below.refl _ _).alloc lR _
 have HK := iD (Blk.new w 26 #[.slice An ns.length cn, .slice Ad nd cd])
 have HH := iD h
 have HX := iD hx
 have H0 := iD h0
 clear h hN hxm hx h0 hsl hls
 go_enter Tryz.func73, Tryz.ntmps73
 go_wp2_with fail
 generalize World.alloc w _ = W at *
 have HM := iD (HH.out.below HB.out)
 have HC := iD (wU An Ad As ns.length cn nd cd n c _ _ _ ns ds s W HM.out.hn HM.out.hd HM.out.hs lR lR lR HM.out.sn HM.out.sd)
 rw [H0.out] at HC
 refine HC.out.mono ?_
 rintro e w1 ⟨rfl, hb1⟩
 have HB1 := iD (HB.out.trans (hb1.mono HB.out.size))
 have HK1 := iD (HK.out.below hb1 HK.out.lt)
 clear HC HM hb1 HB HK
 obtain ⟨b0, off, x', rfl, hb, hx', hc⟩ := (HH.out.below HB1.out).hd.at (k := i) (fun _ => rfl) (by decide) hi
 obtain rfl : x = x' := by have := HX.out; rw [this] at hx'; exact Option.some.inj hx'
 obtain ⟨nm, kd, a, b, co⟩ := x
 simp only at ha0 hb0 hk0
 obtain ⟨a, rfl⟩ := Int.eq_ofNat_of_zero_le ha0.1
 have han : a < ns.length := by omega
 have q1 : decide ((i : Int) < 0) = false := by simp
 have q2 : decide ((n : Int) ≤ (i : Int)) = false := by simp; omega
 have c0 : w1.cell? ⟨b0, off + i * 5, none⟩ = some (.string nm) := hc 0 _ rfl
 have c1 : w1.cell? ⟨b0, off + i * 5 + 1, none⟩ = some (.int .i64 kd) := hc 1 _ rfl
 have c2 : w1.cell? ⟨b0, off + i * 5 + 2, none⟩ = some (.int .i64 a) := hc 2 _ rfl
 have c3 : w1.cell? ⟨b0, off + i * 5 + 3, none⟩ = some (.int .i64 b) := hc 3 _ rfl
 have c4 : w1.cell? ⟨b0, off + i * 5 + 4, none⟩ = some (.int .i64 co) := hc 4 _ rfl
 have k0 := HK1.out.c0
 have k1 := HK1.out.c1
 clear hc hx' ha0
 go_upto_region 7 with (fail)
 clear c0 c1 c2 c3 c4 k0 k1 q1 q2
 have HKD := iD (Blk.new w1 75 #[.string nm, .int .i64 kd, .int .i64 a, .int .i64 b, .int .i64 co])
 have HB2 := iD (HB1.out.alloc HB1.out.size (.cells #[.string nm, .int .i64 kd, .int .i64 a, .int .i64 b, .int .i64 co] 75))
 have HK2 := iD (HK1.out.alloc (.cells #[.string nm, .int .i64 kd, .int .i64 a, .int .i64 b, .int .i64 co] 75))
 generalize World.alloc w1 _ = w2 at *
 obtain ⟨db, hdb⟩ : ∃ x, x = w1.heap.size := ⟨_, rfl⟩
 rw [← hdb] at HKD ⊢
 clear hdb HB1 HK1 hb
 have HM2 := iD (HH.out.below HB2.out.drew)
 refine zk (S := fun W' => W'.cell? ⟨w.heap.size, 0, none⟩ = some (.slice An ns.length cn) ∧ W'.cell? ⟨w.heap.size, 1, none⟩ = some (.slice (some ⟨b0, off, none⟩) nd cd)) (J := []) (n := _) ((0, true) :: (1, true) :: (2, true) :: (3, false) :: (4, false) :: (5, true) :: (6, true) :: (7, true) :: (8, true) :: (9, true) :: []) (by as_aux_lemma => kernel_rfl) (by rfl) (zM (k := 3) (by go_simp; rfl) (zM (k := 1) (by go_simp; rfl) (zM (k := 2) (by go_simp; rfl) yg))) ?_ (fun _ _ _ _ _ h => h) (fun Q2 A hsz hbase hn2 AA => ?_)
 ·exact ⟨HK2.out.cell 0, HK2.out.cell 1⟩
 try dsimp only at AA
 obtain ⟨b3, b1, b2, -⟩ := hbase
 refine oT 0 41 ?_ rfl rfl (zA rfl) AA (fun ρ AB w hSw => ?_) ?_
 rotate_left
 ·(have e3 := tm AB hsz 3 rfl (zJ b3); clear AB; (try dsimp only at hSw); go_simp; try with_reducible rfl)
 refine oM 1 42 ?_ rfl rfl rfl (zA rfl) AA (fun ρ AB => ?_) ?_
 rotate_left
 ·(have e1 := tm AB hsz 1 rfl (zD rfl (zJ b1)); exact e1)
 refine oM 2 43 ?_ rfl rfl rfl (zA rfl) AA (fun ρ AB => ?_) ?_
 rotate_left
 ·(have e2 := tm AB hsz 2 rfl (zD rfl (zD rfl (zJ b2))); exact e2)
 refine yB (i := 3) (d := 44) (vs := ?_) rfl rfl rfl (zA rfl) (fun ρ AB => ?_) ?_ ?_
 rotate_left
 ·(have hc := AB.const; have e42 := tm AB hsz 42 rfl (zD rfl zB); have e43 := tm AB hsz 43 rfl zB; simp only [List.map_toArray, List.map_cons, List.map_nil, e42, e43, hc]; try with_reducible rfl)
 ·(intro w; go_simp)
 refine (vG As n c w2.drew.heap.size s i 2 w2.drew HM2.out.hs lR (by omega)).mono ?_
 rintro e w3 ⟨Aw, cw, rfl, hOw, hb3⟩
 rw [yq, HLS.out] at hOw ⊢
 have HM3 := iD (HM2.out.below hb3.out)
 have HB3 := iD (HB2.out.drew.trans (hb3.out.mono HB2.out.drew.size))
 have HK3 := iD (Blk.below (w := w2.drew) HK2.out hb3.out HK2.out.lt)
 have HD3 := iD (Blk.below (w := w2.drew) HKD.out hb3.out HKD.out.lt)
 refine ⟨_, rfl, fun _ => ?_, fun AA' => ?_⟩
 ·exact ⟨HK3.out.cell 0, HK3.out.cell 1⟩
 replace AA := AA' rfl
 clear AA'
 try dsimp only at AA
 refine yB (i := 4) (d := 45) (vs := ?_) rfl rfl rfl (zA rfl) (fun ρ AB => ?_) ?_ ?_
 rotate_left
 ·(have e41 := tm AB hsz 41 rfl (zD rfl (zD rfl (zD rfl zB))); have e44 := tm AB hsz 44 rfl zB; simp only [List.map_toArray, List.map_cons, List.map_nil, e41, e44]; try with_reducible rfl)
 ·(intro w; go_simp)
 refine (wS An (some ⟨b0, off, none⟩) Aw ns.length cn nd cd n cw w3.heap.size w3.heap.size w3.heap.size ns ds (zZ s i 2) w3 HM3.out.hn HM3.out.hd hOw.out.sl lR lR lR HM3.out.sn HM3.out.sd (by omega) (fun _ => ⟨by omega, HN.out.e, HN.out.ne⟩) (fun _ => ⟨HN.out.a, HN.out.k⟩)).mono ?_
 (rintro e w4 ⟨hb4, ⟨hne, -⟩ | ⟨-, AC, CL, rfl, hOC, hIC⟩⟩; exact absurd (yI H0.out i (p := 2) (Or.inr rfl)) hne)
 have HB4 := iD (HB3.out.trans (hb4.out.mono HB3.out.size))
 have HK4 := iD (HK3.out.below hb4.out HK3.out.lt)
 have HD4 := iD (HD3.out.below hb4.out HD3.out.lt)
 refine ⟨_, rfl, fun _ => ?_, fun AA' => ?_⟩
 ·exact ⟨HK4.out.cell 0, HK4.out.cell 1⟩
 replace AA := AA' rfl
 clear AA'
 try dsimp only at AA
 refine oM 5 40 ?_ rfl rfl rfl (zA rfl) AA (fun ρ AB => ?_) ?_
 rotate_left
 ·(have e45 := tm AB hsz 45 rfl zB; exact e45)
 refine oT 6 46 ?_ rfl rfl (zA rfl) AA (fun ρ AB w hSw => ?_) ?_
 rotate_left
 ·(have e40 := tm AB hsz 40 rfl zB; clear AB; (try dsimp only at hSw); go_simp; try with_reducible rfl)
 refine oT 7 47 ?_ rfl rfl (zA rfl) AA (fun ρ AB w hSw => ?_) ?_
 rotate_left
 ·(have e40 := tm AB hsz 40 rfl (zD rfl zB); clear AB; (try dsimp only at hSw); go_simp; try with_reducible rfl)
 refine oT 8 10 ?_ rfl rfl (zA rfl) AA (fun ρ AB w hSw => ?_) ?_
 rotate_left
 ·(have e46 := tm AB hsz 46 rfl (zD rfl zB); clear AB; (try dsimp only at hSw); go_simp; try with_reducible rfl)
 refine oT 9 11 ?_ rfl rfl (zA rfl) AA (fun ρ AB w hSw => ?_) ?_
 rotate_left
 ·(have e47 := tm AB hsz 47 rfl (zD rfl zB); clear AB; (try dsimp only at hSw); go_simp; try with_reducible rfl)
 refine ye hn2 ?_
 clear AA hn2 b3 b1 b2 hsz A Q2
 simp only [yd, yJ, xJ, vD, vE]
 have HDV : Hid (xG ns.length ns ds s i ⟨nm, kd, a, b, co⟩ = xN kd a b ns (uz ns.length ds (zZ s i 1)) (zY ns.length ds (zZ s i 1)) CL) := by unfold Hid xG; rw [xL hIC.out]
 obtain ⟨g, rfl, -, hg⟩ := wG hOC.out (by omega)
 have hCa := yf hOC.out han
 have HCB : Hid (∀ k, k < ns.length → w4.cell? ⟨g, k, none⟩ = some (.int .i64 (gI CL k))) := fun k hk => yf hOC.out hk
 have HRJ := iD (vP kd)
 have d1 := HD4.out.c1
 have d2 := HD4.out.c2
 have HFE : Hid (xE kd a b CL = ((gI CL a == 3) || (zX kd && (gI CL b.toNat == 3)))) := rfl
 clear HKD HK2 HB2 HM2 HM3 HB3 HK3 HD3 hb3 hb4 hOw hIC hOC
 rcases hq : (gI CL a == 3) with _ | _; rotate_left
 ·have HF : Hid (xE kd a b CL = true) := by unfold Hid; rw [HFE.out, hq]; rfl
  go_wp2_with fail
  go_ret2
  exact ⟨by rw [HDV.out, tp HF.out]; rfl, HB4.out⟩
 rw [hq] at HFE
 rcases hj : zX kd with _ | _
 ·have HF : Hid (xE kd a b CL = false) := by unfold Hid; rw [HFE.out, hj]; rfl
  have HJ0 := iD hj
  rw [hj] at HRJ
  clear HFE hb0
  go_wp2_with fail
  refine (HRJ.out w4).mono ?_
  rintro e w4 ⟨rfl, rfl⟩
  rcases hk4 : (kd == 4) with _ | _; rotate_left
  ·have HOK : Hid (sOk kd a b (uz ns.length ds (zZ s i 1)) = false) := by unfold Hid sOk; rw [if_pos (by simpa using hk4)]
   go_wp2_with fail
   go_ret2
   exact ⟨by rw [HDV.out, qE HF.out HOK.out]; rfl, HB4.out⟩
  have hkn : kd ≠ 4 := by simpa using hk4
  have HKN := iD hkn
  clear hkn
  have k0 := HK4.out.c0
  have k1 := HK4.out.c1
  go_wp2_with fail
  clear k0 k1 d1 d2 hCa
  have HM4 := iD (HH.out.below HB4.out)
  refine (vG As n c w4.heap.size s i 1 w4 HM4.out.hs lR (by omega)).mono ?_
  rintro e w5 ⟨Aw2, cw2, rfl, hOw, hb5⟩
  rw [yq, HLS.out] at hOw ⊢
  have HM5 := iD (HM4.out.below hb5.out)
  have HB5 := iD (HB4.out.trans (hb5.out.mono HB4.out.size))
  have HK5 := iD (HK4.out.below hb5.out HK4.out.lt)
  have HD5 := iD (HD4.out.below hb5.out HD4.out.lt)
  have HS5 : Hid (Sl w5 w5.heap.size 1 Aw2 n cw2 (zK (zZ s i 1))) := hOw.out.sl
  clear hOw hb5 HM4 HB4 HK4 HD4 HCB
  have k0 := HK5.out.c0
  have k1 := HK5.out.c1
  go_wp2_with fail
  clear k0 k1
  refine (wS An (some ⟨b0, off, none⟩) Aw2 ns.length cn nd cd n cw2 w5.heap.size w5.heap.size w5.heap.size ns ds (zZ s i 1) w5 HM5.out.hn HM5.out.hd HS5.out lR lR lR HM5.out.sn HM5.out.sd (by omega) (fun _ => ⟨by omega, HN.out.e, HN.out.ne⟩) (fun _ => ⟨HN.out.a, HN.out.k⟩)).mono ?_
  (rintro e w6 ⟨hb6, ⟨hne, -⟩ | ⟨-, AO, OP, rfl, hOO, hIO⟩⟩; exact absurd (yI H0.out i (p := 1) (Or.inl rfl)) hne)
  have HM6 := iD (HM5.out.below hb6.out)
  have HB6 := iD (HB5.out.trans (hb6.out.mono HB5.out.size))
  have HK6 := iD (HK5.out.below hb6.out HK5.out.lt)
  have HD6 := iD (HD5.out.below hb6.out HD5.out.lt)
  have HS6 := iD ((HS5.out.below hb6.out lR).more hb6.out.size)
  rw [xL hIO.out] at HDV
  clear hb6 hIO HM5 HB5 HK5 HD5 HS5
  have k0 := HK6.out.c0
  have k1 := HK6.out.c1
  go_wp2_with fail
  clear k0 k1
  refine (uT An (some ⟨b0, off, none⟩) Aw2 ns.length cn nd cd n cw2 w6.heap.size w6.heap.size w6.heap.size ns ds (zZ s i 1) w6 HM6.out.hn HM6.out.hd HS6.out lR lR lR HM6.out.sn HM6.out.sd (by omega) (fun _ => ⟨by omega, HN.out.e, HN.out.ne⟩)).mono ?_
  (rintro e w7 ⟨hb7, ⟨hne, -⟩ | ⟨-, AP, PL, rfl, hOP, hIP⟩⟩; exact absurd (yI H0.out i (p := 1) (Or.inl rfl)) hne)
  have HN7 := iD ((HM6.out.below hb7.out).hn)
  have HB7 := iD (HB6.out.trans (hb7.out.mono HB6.out.size))
  have HK7 := iD (HK6.out.below hb7.out HK6.out.lt)
  have HD7 := iD (HD6.out.below hb7.out HD6.out.lt)
  have HOO := iD (hOO.out.later hb7.out)
  rw [uX hIP.out] at HDV
  clear hb7 hIP HM6 HB6 HK6 HD6 HS6 hOO HN
  obtain ⟨go, rfl, -, hgo⟩ := wG HOO.out (by omega)
  obtain ⟨gp, rfl, -, hgp⟩ := wG hOP.out (by omega)
  have oa := yf HOO.out han
  have pa := yf hOP.out han
  have d1 := HD7.out.c1
  have d2 := HD7.out.c2
  have HPC : Hid (∀ k, k < ns.length → w7.cell? ⟨gp, k, none⟩ = some (.int .i64 (gI PL k))) := fun k hk => yf hOP.out hk
  have hLA : lvB OP a = (bits BinOp.and IntKind.i64 (gI OP a) 1 != 0) := rfl
  have HOK : Hid (sOk kd a b PL = true) := by unfold Hid sOk; rw [if_neg HKN.out, if_pos HJ0.out]
  have HL0 : Hid (sL0 kd a OP = true) := by unfold Hid sL0; rw [if_neg HKN.out, if_pos HJ0.out]
  have HL1 : Hid (sL1 kd a b OP = lvB OP a) := by unfold Hid sL1; rw [if_neg HKN.out, if_pos HJ0.out]
  clear hj hOP HOO
  rcases hl : (bits BinOp.and IntKind.i64 (gI OP a) 1 != 0) with _ | _; rotate_left
  ·rw [hLA, hl] at HL1
   clear hLA
   go_wp2_with fail
   refine (HRJ.out w7).mono ?_
   rintro e w7 ⟨rfl, rfl⟩
   go_wp2_with fail
   go_ret2
   exact ⟨by rw [HDV.out, qD HF.out HOK.out HL0.out HL1.out]; rfl, HB7.out⟩
  rw [hLA, hl] at HL1
  have HNE : Hid (sL0 kd a OP ≠ sL1 kd a b OP) := by unfold Hid; rw [HL0.out, HL1.out]; simp
  clear hLA
  go_wp2_with fail
  refine (HRJ.out w7).mono ?_
  rintro e w7 ⟨rfl, rfl⟩
  have HLT : Hid (xW kd a b ns PL OP ns.length ↔ ∃ (i : Nat) (x : Nd), i < ns.length ∧ ns[i]? = some x ∧ 0 < x.cust ∧ gI PL i = gI PL a) := by
   have hdn : dN kd a b PL OP = (a : Int) := by unfold dN dOk; rw [HOK.out, if_pos (by simpa using HNE.out), if_pos HL0.out]; unfold sN1; rw [if_neg HKN.out, if_pos HJ0.out]
   unfold Hid xW
   rw [hdn]
   rfl
  clear d1 d2
  go_wp2_with fail
  go_loopg [20] ns.length (jr w7 ns PL (gI PL a))
  case atStart => exact ⟨0, rfl, Nat.zero_le _, rfl, rfl, fun ⟨i, x, h, _⟩ => by omega⟩
  case round =>
   obtain ⟨v, rfl, hv, rfl, rfl, hno⟩ := hrel
   by_cases hvt : v < ns.length
   ·obtain ⟨nb0, noff, y, hAn, hnb, hy, hny⟩ := HN7.out.at (k := v) (fun _ => rfl) (by decide) hvt
    have HY := iD hy
    have hAn2 := HK7.out.cell 0
    rw [hAn] at hAn2
    have k0 : wr.cell? ⟨w.heap.size, 0, none⟩ = some (.slice (some ⟨nb0, noff, none⟩) ns.length cn) := hAn2
    have y1 : wr.cell? ⟨nb0, noff + v * 3 + 1, none⟩ = some (.int .i64 y.cust) := hny 1 _ rfl
    have pv := HPC.out v hvt
    have HAN := iD hAn
    clear hy hny hAn hAn2
    rcases hq1 : (gI PL v == gI PL a) with _ | _
    ·have HNO : Hid (¬ ∃ (i : Nat) (x : Nd), i < v + 1 ∧ ns[i]? = some x ∧ 0 < x.cust ∧ gI PL i = gI PL a) := fun ⟨i, x, h1, h2, h3, h4⟩ => by
      rcases Nat.lt_succ_iff_lt_or_eq.1 h1 with h | rfl
      ·exact hno.out ⟨i, x, h, h2, h3, h4⟩
      ·rw [h4] at hq1; simp at hq1
     go_wp2_with fail
     go_roundg (ns.length - (v + 1))
     case rel => exact ⟨v + 1, by go_num, by omega, rfl, rfl, HNO⟩
     case measure => omega
    by_cases hcu : 0 < y.cust
    ·have q3 : decide (0 < y.cust) = true := by simpa using hcu
     have HLD := iD (HLT.out.2 ⟨v, y, hvt, HY.out, hcu, by simpa using hq1⟩)
     clear hcu
     go_wp2_with fail
     go_ret2
     exact ⟨by rw [HDV.out, ue HF.out HOK.out HNE.out HLD.out]; rfl, HB7.out⟩
    ·have q3 : decide (0 < y.cust) = false := by simpa using hcu
     have HNO : Hid (¬ ∃ (i : Nat) (x : Nd), i < v + 1 ∧ ns[i]? = some x ∧ 0 < x.cust ∧ gI PL i = gI PL a) := fun ⟨i, x, h1, h2, h3, h4⟩ => by
      rcases Nat.lt_succ_iff_lt_or_eq.1 h1 with h | rfl
      ·exact hno.out ⟨i, x, h, h2, h3, h4⟩
      ·rw [HY.out] at h2; injection h2 with h2; subst h2; exact hcu h3
     clear hcu
     go_wp2_with fail
     go_roundg (ns.length - (v + 1))
     case rel => exact ⟨v + 1, by go_num, by omega, rfl, rfl, HNO⟩
     case measure => omega
   ·obtain rfl : v = ns.length := by omega
    have hii : decide (ns.length < ns.length) = false := by simp
    have HNL := iD (fun h => hno.out (HLT.out.1 h))
    go_wp2_with fail
    go_ret2
    exact ⟨by rw [HDV.out, tU HF.out HOK.out HNE.out HNL.out]; rfl, HB7.out⟩
 ·obtain ⟨b, rfl⟩ := Int.eq_ofNat_of_zero_le (hb0 hj).1
  have hbn : b < ns.length := by have := (hb0 hj).2; omega
  have hCb := HCB.out b hbn
  have d3 := HD4.out.c3
  have HJ0 := iD hj
  rw [hj] at HRJ HFE
  clear hb0
  rcases hq2 : (gI CL b == 3) with _ | _; rotate_left
  ·have HF : Hid (xE kd a b CL = true) := by unfold Hid; rw [HFE.out, Int.toNat_natCast, hq2]; rfl
   clear HFE
   go_wp2_with fail
   refine (HRJ.out w4).mono ?_
   rintro e w4 ⟨rfl, rfl⟩
   go_wp2_with fail
   go_ret2
   exact ⟨by rw [HDV.out, tp HF.out]; rfl, HB4.out⟩
  have HF : Hid (xE kd a b CL = false) := by unfold Hid; rw [HFE.out, Int.toNat_natCast, hq2]; rfl
  have HKN : Hid (kd ≠ 4) := fun e => by subst e; exact absurd HJ0.out (by decide)
  have hk4 : (kd == 4) = false := by simpa using HKN.out
  clear HFE
  go_wp2_with fail
  refine (HRJ.out w4).mono ?_
  rintro e w4 ⟨rfl, rfl⟩
  have k0 := HK4.out.c0
  have k1 := HK4.out.c1
  go_wp2_with fail
  clear k0 k1 d1 d2 d3 hCa hCb
  have HM4 := iD (HH.out.below HB4.out)
  refine (vG As n c w4.heap.size s i 1 w4 HM4.out.hs lR (by omega)).mono ?_
  rintro e w5 ⟨Aw2, cw2, rfl, hOw, hb5⟩
  rw [yq, HLS.out] at hOw ⊢
  have HM5 := iD (HM4.out.below hb5.out)
  have HB5 := iD (HB4.out.trans (hb5.out.mono HB4.out.size))
  have HK5 := iD (HK4.out.below hb5.out HK4.out.lt)
  have HD5 := iD (HD4.out.below hb5.out HD4.out.lt)
  have HS5 : Hid (Sl w5 w5.heap.size 1 Aw2 n cw2 (zK (zZ s i 1))) := hOw.out.sl
  clear hOw hb5 HM4 HB4 HK4 HD4 HCB
  have k0 := HK5.out.c0
  have k1 := HK5.out.c1
  go_wp2_with fail
  clear k0 k1
  refine (wS An (some ⟨b0, off, none⟩) Aw2 ns.length cn nd cd n cw2 w5.heap.size w5.heap.size w5.heap.size ns ds (zZ s i 1) w5 HM5.out.hn HM5.out.hd HS5.out lR lR lR HM5.out.sn HM5.out.sd (by omega) (fun _ => ⟨by omega, HN.out.e, HN.out.ne⟩) (fun _ => ⟨HN.out.a, HN.out.k⟩)).mono ?_
  (rintro e w6 ⟨hb6, ⟨hne, -⟩ | ⟨-, AO, OP, rfl, hOO, hIO⟩⟩; exact absurd (yI H0.out i (p := 1) (Or.inl rfl)) hne)
  have HM6 := iD (HM5.out.below hb6.out)
  have HB6 := iD (HB5.out.trans (hb6.out.mono HB5.out.size))
  have HK6 := iD (HK5.out.below hb6.out HK5.out.lt)
  have HD6 := iD (HD5.out.below hb6.out HD5.out.lt)
  have HS6 := iD ((HS5.out.below hb6.out lR).more hb6.out.size)
  rw [xL hIO.out] at HDV
  clear hb6 hIO HM5 HB5 HK5 HD5 HS5
  have k0 := HK6.out.c0
  have k1 := HK6.out.c1
  go_wp2_with fail
  clear k0 k1
  refine (uT An (some ⟨b0, off, none⟩) Aw2 ns.length cn nd cd n cw2 w6.heap.size w6.heap.size w6.heap.size ns ds (zZ s i 1) w6 HM6.out.hn HM6.out.hd HS6.out lR lR lR HM6.out.sn HM6.out.sd (by omega) (fun _ => ⟨by omega, HN.out.e, HN.out.ne⟩)).mono ?_
  (rintro e w7 ⟨hb7, ⟨hne, -⟩ | ⟨-, AP, PL, rfl, hOP, hIP⟩⟩; exact absurd (yI H0.out i (p := 1) (Or.inl rfl)) hne)
  have HN7 := iD ((HM6.out.below hb7.out).hn)
  have HB7 := iD (HB6.out.trans (hb7.out.mono HB6.out.size))
  have HK7 := iD (HK6.out.below hb7.out HK6.out.lt)
  have HD7 := iD (HD6.out.below hb7.out HD6.out.lt)
  have HOO := iD (hOO.out.later hb7.out)
  rw [uX hIP.out] at HDV
  clear hb7 hIP HM6 HB6 HK6 HD6 HS6 hOO HN
  obtain ⟨go, rfl, -, hgo⟩ := wG HOO.out (by omega)
  obtain ⟨gp, rfl, -, hgp⟩ := wG hOP.out (by omega)
  have oa := yf HOO.out han
  have pa := yf hOP.out han
  have d1 := HD7.out.c1
  have d2 := HD7.out.c2
  have HPC : Hid (∀ k, k < ns.length → w7.cell? ⟨gp, k, none⟩ = some (.int .i64 (gI PL k))) := fun k hk => yf hOP.out hk
  have hLA : lvB OP a = (bits BinOp.and IntKind.i64 (gI OP a) 1 != 0) := rfl
  have ob := yf HOO.out hbn
  have pb := HPC.out b hbn
  have d3 := HD7.out.c3
  have hLB : lvB OP b = (bits BinOp.and IntKind.i64 (gI OP b) 1 != 0) := rfl
  have HOE : Hid (sOk kd a b PL = !(gI PL a == gI PL b)) := by unfold Hid sOk; rw [if_neg HKN.out, if_neg (by rw [HJ0.out]; simp)]; rfl
  have HL0 : Hid (sL0 kd a OP = lvB OP a) := by unfold Hid sL0; rw [if_neg HKN.out, if_neg (by rw [HJ0.out]; simp)]
  have HL1 : Hid (sL1 kd a b OP = lvB OP b) := by unfold Hid sL1; rw [if_neg HKN.out, if_neg (by rw [HJ0.out]; simp)]
  clear hj hOP HOO
  rw [hLA] at HL0
  rw [hLB] at HL1
  clear hLA hLB
  obtain ⟨la, hla⟩ : ∃ t, t = (bits BinOp.and IntKind.i64 (gI OP a) 1 != 0) := ⟨_, rfl⟩
  obtain ⟨lb, hlb⟩ : ∃ t, t = (bits BinOp.and IntKind.i64 (gI OP b) 1 != 0) := ⟨_, rfl⟩
  rw [← hla] at HL0
  rw [← hlb] at HL1
  have hlb2 := hlb.symm
  have hla2 := hla.symm
  clear hla hlb
  go_wp2_with fail
  refine (HRJ.out w7).mono ?_
  rintro e w7 ⟨rfl, rfl⟩
  go_upto_region 18 with (fail)
  refine zk (S := fun W' => W' = W' ∧ (∀ k, k < ns.length → W'.cell? ⟨gp, k, none⟩ = some (.int .i64 (gI PL k))) ∧ W'.cell? ⟨db, 2, none⟩ = some (.int .i64 a) ∧ W'.cell? ⟨db, 3, none⟩ = some (.int .i64 b)) (J := []) (n := _) ((0, true) :: (5, true) :: (1, true) :: (6, true) :: (2, true) :: (7, true) :: (3, true) :: (8, true) :: (4, true) :: (9, true) :: (10, true) :: []) (by as_aux_lemma => kernel_rfl) (by rfl) (zM (k := 15) (by go_simp; rfl) (zM (k := 9) (by go_simp; rfl) yg)) ?_ (fun _ _ _ _ _ h => h) (fun Q2 A hsz hbase hn2 AA => ?_)
  ·exact ⟨rfl, HPC.out, HD7.out.cell 2, HD7.out.cell 3⟩
  try dsimp only at AA
  obtain ⟨b15, b9, -⟩ := hbase
  refine oM 0 100 ?_ rfl rfl rfl (zA rfl) AA (fun ρ AB => ?_) ?_
  rotate_left
  ·(have e15 := tm AB hsz 15 rfl (zJ b15); exact e15)
  refine oM 5 105 ?_ rfl rfl rfl (zA rfl) AA (fun ρ AB => ?_) ?_
  rotate_left
  ·(have e15 := tm AB hsz 15 rfl (zD rfl (zJ b15)); exact e15)
  refine oT 1 101 ?_ rfl rfl (zA rfl) AA (fun ρ AB w hSw => ?_) ?_
  rotate_left
  ·(have e9 := tm AB hsz 9 rfl (zD rfl (zD rfl (zJ b9))); clear AB; (try dsimp only at hSw); go_simp; try with_reducible rfl)
  refine oT 6 106 ?_ rfl rfl (zA rfl) AA (fun ρ AB w hSw => ?_) ?_
  rotate_left
  ·(have e9 := tm AB hsz 9 rfl (zD rfl (zD rfl (zD rfl (zJ b9)))); clear AB; (try dsimp only at hSw); go_simp; try with_reducible rfl)
  refine oT 2 102 ?_ rfl rfl (zA rfl) AA (fun ρ AB w hSw => ?_) ?_
  rotate_left
  ·(have e101 := tm AB hsz 101 rfl (zD rfl zB); clear AB; (try dsimp only at hSw); have d2 := hSw.2.2.1; clear hSw; go_simp; try with_reducible rfl)
  refine oT 7 107 ?_ rfl rfl (zA rfl) AA (fun ρ AB w hSw => ?_) ?_
  rotate_left
  ·(have e106 := tm AB hsz 106 rfl (zD rfl zB); clear AB; (try dsimp only at hSw); have d3 := hSw.2.2.2; clear hSw; go_simp; try with_reducible rfl)
  refine oT 3 103 ?_ rfl rfl (zA rfl) AA (fun ρ AB w hSw => ?_) ?_
  rotate_left
  ·(have e100 := tm AB hsz 100 rfl (zH rfl rfl rfl rfl (zD rfl zB)); have e102 := tm AB hsz 102 rfl (zD rfl zB); clear AB; (try dsimp only at hSw); go_simp; try with_reducible rfl)
  refine oT 8 108 ?_ rfl rfl (zA rfl) AA (fun ρ AB w hSw => ?_) ?_
  rotate_left
  ·(have e105 := tm AB hsz 105 rfl (zH rfl rfl rfl rfl (zD rfl zB)); have e107 := tm AB hsz 107 rfl (zD rfl zB); clear AB; (try dsimp only at hSw); go_simp; try with_reducible rfl)
  refine oT 4 104 ?_ rfl rfl (zA rfl) AA (fun ρ AB w hSw => ?_) ?_
  rotate_left
  ·(have e103 := tm AB hsz 103 rfl (zD rfl zB); clear AB; (try dsimp only at hSw); have p1 := hSw.2.1 a han; clear hSw; go_simp; try with_reducible rfl)
  refine oT 9 109 ?_ rfl rfl (zA rfl) AA (fun ρ AB w hSw => ?_) ?_
  rotate_left
  ·(have e108 := tm AB hsz 108 rfl (zD rfl zB); clear AB; (try dsimp only at hSw); have p1 := hSw.2.1 b hbn; clear hSw; go_simp; try with_reducible rfl)
  refine oT 10 110 ?_ rfl rfl (zA rfl) AA (fun ρ AB w hSw => ?_) ?_
  rotate_left
  ·(have e104 := tm AB hsz 104 rfl (zD rfl zB); have e109 := tm AB hsz 109 rfl zB; clear AB; (try dsimp only at hSw); go_simp; try with_reducible rfl)
  refine ye hn2 ?_
  clear AA hn2 b15 b9 hsz A Q2
  simp only [yd, yJ, xJ, vD, vE]
  rcases hpp : (gI PL a == gI PL b) with _ | _; rotate_left
  ·have HOK : Hid (sOk kd a b PL = false) := by unfold Hid; rw [HOE.out, hpp]; rfl
   go_wp2_with fail
   go_ret2
   exact ⟨by rw [HDV.out, qE HF.out HOK.out]; rfl, HB7.out.drew⟩
  have HOK : Hid (sOk kd a b PL = true) := by unfold Hid; rw [HOE.out, hpp]; rfl
  clear HOE
  rcases la with _ | _
  ·rcases lb with _ | _
   ·go_wp2_with fail
    go_ret2
    exact ⟨by rw [HDV.out, nM HF.out HL0.out HL1.out]; rfl, HB7.out.drew⟩
   ·have HNE : Hid (sL0 kd a OP ≠ sL1 kd a b OP) := by unfold Hid; rw [HL0.out, HL1.out]; simp
    have HLT : Hid (xW kd a b ns PL OP ns.length ↔ ∃ (i : Nat) (x : Nd), i < ns.length ∧ ns[i]? = some x ∧ 0 < x.cust ∧ gI PL i = gI PL a) := by
     have hdn : dN kd a b PL OP = (a : Int) := by unfold dN dOk; rw [HOK.out, if_pos (by simpa using HNE.out), if_neg (by rw [HL0.out]; simp)]; unfold sN0; rw [if_neg HKN.out, if_neg (by rw [HJ0.out]; simp)]
     unfold Hid xW
     rw [hdn]
     rfl
    clear d1 d2
    go_wp2_with fail
    go_loopg [20] ns.length (jr w7.drew ns PL (gI PL a))
    case atStart => exact ⟨0, rfl, Nat.zero_le _, rfl, rfl, fun ⟨i, x, h, _⟩ => by omega⟩
    case round =>
     obtain ⟨v, rfl, hv, rfl, rfl, hno⟩ := hrel
     by_cases hvt : v < ns.length
     ·obtain ⟨nb0, noff, y, hAn, hnb, hy, hny⟩ := HN7.out.at (k := v) (fun _ => rfl) (by decide) hvt
      have HY := iD hy
      have hAn2 := HK7.out.cell 0
      rw [hAn] at hAn2
      have k0 : w7.cell? ⟨w.heap.size, 0, none⟩ = some (.slice (some ⟨nb0, noff, none⟩) ns.length cn) := hAn2
      have y1 : w7.cell? ⟨nb0, noff + v * 3 + 1, none⟩ = some (.int .i64 y.cust) := hny 1 _ rfl
      have pv := HPC.out v hvt
      have HAN := iD hAn
      clear hy hny hAn hAn2
      rcases hq1 : (gI PL v == gI PL a) with _ | _
      ·have HNO : Hid (¬ ∃ (i : Nat) (x : Nd), i < v + 1 ∧ ns[i]? = some x ∧ 0 < x.cust ∧ gI PL i = gI PL a) := fun ⟨i, x, h1, h2, h3, h4⟩ => by
        rcases Nat.lt_succ_iff_lt_or_eq.1 h1 with h | rfl
        ·exact hno.out ⟨i, x, h, h2, h3, h4⟩
        ·rw [h4] at hq1; simp at hq1
       go_wp2_with fail
       go_roundg (ns.length - (v + 1))
       case rel => exact ⟨v + 1, by go_num, by omega, rfl, rfl, HNO⟩
       case measure => omega
      by_cases hcu : 0 < y.cust
      ·have q3 : decide (0 < y.cust) = true := by simpa using hcu
       have HLD := iD (HLT.out.2 ⟨v, y, hvt, HY.out, hcu, by simpa using hq1⟩)
       clear hcu
       go_wp2_with fail
       go_ret2
       exact ⟨by rw [HDV.out, ue HF.out HOK.out HNE.out HLD.out]; rfl, HB7.out.drew⟩
      ·have q3 : decide (0 < y.cust) = false := by simpa using hcu
       have HNO : Hid (¬ ∃ (i : Nat) (x : Nd), i < v + 1 ∧ ns[i]? = some x ∧ 0 < x.cust ∧ gI PL i = gI PL a) := fun ⟨i, x, h1, h2, h3, h4⟩ => by
        rcases Nat.lt_succ_iff_lt_or_eq.1 h1 with h | rfl
        ·exact hno.out ⟨i, x, h, h2, h3, h4⟩
        ·rw [HY.out] at h2; injection h2 with h2; subst h2; exact hcu h3
       clear hcu
       go_wp2_with fail
       go_roundg (ns.length - (v + 1))
       case rel => exact ⟨v + 1, by go_num, by omega, rfl, rfl, HNO⟩
       case measure => omega
     ·obtain rfl : v = ns.length := by omega
      have hii : decide (ns.length < ns.length) = false := by simp
      have HNL := iD (fun h => hno.out (HLT.out.1 h))
      go_wp2_with fail
      go_ret2
      exact ⟨by rw [HDV.out, tU HF.out HOK.out HNE.out HNL.out]; rfl, HB7.out.drew⟩
  ·rcases lb with _ | _
   ·have HNE : Hid (sL0 kd a OP ≠ sL1 kd a b OP) := by unfold Hid; rw [HL0.out, HL1.out]; simp
    have HLT : Hid (xW kd a b ns PL OP ns.length ↔ ∃ (i : Nat) (x : Nd), i < ns.length ∧ ns[i]? = some x ∧ 0 < x.cust ∧ gI PL i = gI PL b) := by
     have hdn : dN kd a b PL OP = (b : Int) := by unfold dN dOk; rw [HOK.out, if_pos (by simpa using HNE.out), if_pos HL0.out]; unfold sN1; rw [if_neg HKN.out, if_neg (by rw [HJ0.out]; simp)]
     unfold Hid xW
     rw [hdn]
     rfl
    clear d1 d2
    go_wp2_with fail
    go_loopg [20] ns.length (jr w7.drew ns PL (gI PL b))
    case atStart => exact ⟨0, rfl, Nat.zero_le _, rfl, rfl, fun ⟨i, x, h, _⟩ => by omega⟩
    case round =>
     obtain ⟨v, rfl, hv, rfl, rfl, hno⟩ := hrel
     by_cases hvt : v < ns.length
     ·obtain ⟨nb0, noff, y, hAn, hnb, hy, hny⟩ := HN7.out.at (k := v) (fun _ => rfl) (by decide) hvt
      have HY := iD hy
      have hAn2 := HK7.out.cell 0
      rw [hAn] at hAn2
      have k0 : w7.cell? ⟨w.heap.size, 0, none⟩ = some (.slice (some ⟨nb0, noff, none⟩) ns.length cn) := hAn2
      have y1 : w7.cell? ⟨nb0, noff + v * 3 + 1, none⟩ = some (.int .i64 y.cust) := hny 1 _ rfl
      have pv := HPC.out v hvt
      have HAN := iD hAn
      clear hy hny hAn hAn2
      rcases hq1 : (gI PL v == gI PL b) with _ | _
      ·have HNO : Hid (¬ ∃ (i : Nat) (x : Nd), i < v + 1 ∧ ns[i]? = some x ∧ 0 < x.cust ∧ gI PL i = gI PL b) := fun ⟨i, x, h1, h2, h3, h4⟩ => by
        rcases Nat.lt_succ_iff_lt_or_eq.1 h1 with h | rfl
        ·exact hno.out ⟨i, x, h, h2, h3, h4⟩
        ·rw [h4] at hq1; simp at hq1
       go_wp2_with fail
       go_roundg (ns.length - (v + 1))
       case rel => exact ⟨v + 1, by go_num, by omega, rfl, rfl, HNO⟩
       case measure => omega
      by_cases hcu : 0 < y.cust
      ·have q3 : decide (0 < y.cust) = true := by simpa using hcu
       have HLD := iD (HLT.out.2 ⟨v, y, hvt, HY.out, hcu, by simpa using hq1⟩)
       clear hcu
       go_wp2_with fail
       go_ret2
       exact ⟨by rw [HDV.out, ue HF.out HOK.out HNE.out HLD.out]; rfl, HB7.out.drew⟩
      ·have q3 : decide (0 < y.cust) = false := by simpa using hcu
       have HNO : Hid (¬ ∃ (i : Nat) (x : Nd), i < v + 1 ∧ ns[i]? = some x ∧ 0 < x.cust ∧ gI PL i = gI PL b) := fun ⟨i, x, h1, h2, h3, h4⟩ => by
        rcases Nat.lt_succ_iff_lt_or_eq.1 h1 with h | rfl
        ·exact hno.out ⟨i, x, h, h2, h3, h4⟩
        ·rw [HY.out] at h2; injection h2 with h2; subst h2; exact hcu h3
       clear hcu
       go_wp2_with fail
       go_roundg (ns.length - (v + 1))
       case rel => exact ⟨v + 1, by go_num, by omega, rfl, rfl, HNO⟩
       case measure => omega
     ·obtain rfl : v = ns.length := by omega
      have hii : decide (ns.length < ns.length) = false := by simp
      have HNL := iD (fun h => hno.out (HLT.out.1 h))
      go_wp2_with fail
      go_ret2
      exact ⟨by rw [HDV.out, tU HF.out HOK.out HNE.out HNL.out]; rfl, HB7.out.drew⟩
   ·go_wp2_with fail
    go_ret2
    exact ⟨by rw [HDV.out, qD HF.out HOK.out HL0.out HL1.out]; rfl, HB7.out.drew⟩
end
section
open Go.RowKit
theorem lm {nn : Nat} {ds : List Dv} {s c : List Int} (hc : vA nn ds s c) {a b : Nat} (ha : a < nn) (hb : b < nn) : yn (bits .or .i64 (c.getD a 0) (c.getD b 0)) = (yn (c.getD a 0) || yn (c.getD b 0)) := by
 rw [yG (hc.2 a ha), yG (hc.2 b hb)]
 unfold mx
 rcases yV (rR ym ds s a) 1 with ⟨_, e1⟩ | ⟨_, e1⟩ <;> rcases yV (rR (· = 4) ds s a) 2 with ⟨_, e2⟩ | ⟨_, e2⟩ <;> rcases yV (rR ym ds s b) 1 with ⟨_, e3⟩ | ⟨_, e3⟩ <;> rcases yV (rR (· = 4) ds s b) 2 with ⟨_, e4⟩ | ⟨_, e4⟩ <;> rw [e1, e2, e3, e4] <;> kernel_rfl
theorem mt (kd a b : Int) (ns : List Nd) (parts op cl : List Int) : xN kd a b ns parts op cl = 0 ∨ xN kd a b ns parts op cl = 1 ∨ xN kd a b ns parts op cl = 2 ∨ xN kd a b ns parts op cl = 3 ∨ xN kd a b ns parts op cl = 4 := by
 unfold xN
 split
 ·simp
 split
 ·simp
 split
 ·simp
 split <;> simp
theorem lV (An Ad As : Option Addr) (nn cn nd cd n c i : Nat) (ns : List Nd) (ds : List Dv) (s : List Int) (p : Int) (x : Dv) (w : World) (h : yp w An Ad As none none nn cn nd cd n c 0 0 0 0 ns ds s [] []) (h0 : zL ns ds s = 0) (hx : ds[i]? = some x) (hp : p = 1 ∨ p = 2) :
 Calls Tryz.prog 74 #[.agg #[.slice An nn cn, .slice Ad nd cd], .slice As n c, .agg #[.int .i64 i, .int .i64 p]] w fun e w' => e = .returned (.bool (yS x.kind p (xG nn ns ds s i x) (lvE (zY nn ds s) x))) ∧ Below w.heap.size w w' := by
 obtain ⟨hln, hld, hls⟩ := h.ln
 subst hln
 have hN := wL.of (za h0).1
 have hsl := (za h0).2
 have hxm := List.mem_of_getElem? hx
 have ha0 := hN.a x hxm
 have hk0 := hN.k x hxm
 have hb0 : zX x.kind = true → 0 ≤ x.b ∧ x.b < ns.length := fun hj => (hN.e x hxm hj).2
 have hi : i < nd := by have := (List.getElem?_eq_some_iff.1 hx).1; omega
 have hnl := hN.nl
 have hdl := hN.dl
 have HN := iD hN
 have HLS := iD hls
 have hndn : nd ≤ n ∧ n ≤ nd := by omega
 have HB : Hid (Below w.heap.size w ((w.alloc (.cells #[.slice An ns.length cn, .slice Ad nd cd] 26)).alloc (.cells #[.int .i64 i, .int .i64 p] 66))) := ((Below.refl _ _).alloc lR _).alloc (by simp) _
 have HK := iD ((Blk.new w 26 #[.slice An ns.length cn, .slice Ad nd cd]).alloc (.cells #[.int .i64 i, .int .i64 p] 66))
 have HO := iD (Blk.new (w.alloc (.cells #[.slice An ns.length cn, .slice Ad nd cd] 26)) 66 #[.int .i64 i, .int .i64 p])
 have hsz : (w.alloc (.cells #[.slice An ns.length cn, .slice Ad nd cd] 26)).heap.size = w.heap.size + 1 := by simp
 rw [hsz] at HO
 have HH := iD h
 have HX := iD hx
 have H0 := iD h0
 clear h hN hxm hx h0 hsl hls
 go_enter Tryz.func74, Tryz.ntmps74
 go_upto_region 1 with (fail)
 clear hsz
 generalize World.alloc (World.alloc w _) _ = W at *
 obtain ⟨b0, off, x', rfl, hb, hx', hc⟩ := (HH.out.below HB.out).hd.at (k := i) (fun _ => rfl) (by decide) hi
 obtain rfl : x = x' := by have := HX.out; rw [this] at hx'; exact Option.some.inj hx'
 obtain ⟨nm, kd, a, b, co⟩ := x
 simp only at ha0 hb0 hk0
 obtain ⟨a, rfl⟩ := Int.eq_ofNat_of_zero_le ha0.1
 have han : a < ns.length := by omega
 have c0 : W.cell? ⟨b0, off + i * 5, none⟩ = some (.string nm) := hc 0 _ rfl
 have c1 : W.cell? ⟨b0, off + i * 5 + 1, none⟩ = some (.int .i64 kd) := hc 1 _ rfl
 have c2 : W.cell? ⟨b0, off + i * 5 + 2, none⟩ = some (.int .i64 a) := hc 2 _ rfl
 have c3 : W.cell? ⟨b0, off + i * 5 + 3, none⟩ = some (.int .i64 b) := hc 3 _ rfl
 have c4 : W.cell? ⟨b0, off + i * 5 + 4, none⟩ = some (.int .i64 co) := hc 4 _ rfl
 have k0 := HK.out.c0
 have k1 := HK.out.c1
 have o0 := HO.out.c0
 clear hc hx' ha0
 go_upto_region 2 with (fail)
 clear c0 c1 c2 c3 c4 k0 k1 o0
 have HKD := iD (Blk.new W 75 #[.string nm, .int .i64 kd, .int .i64 a, .int .i64 b, .int .i64 co])
 have HB2 := iD (HB.out.alloc HB.out.size (.cells #[.string nm, .int .i64 kd, .int .i64 a, .int .i64 b, .int .i64 co] 75))
 have HK2 := iD (HK.out.alloc (.cells #[.string nm, .int .i64 kd, .int .i64 a, .int .i64 b, .int .i64 co] 75))
 have HO2 := iD (HO.out.alloc (.cells #[.string nm, .int .i64 kd, .int .i64 a, .int .i64 b, .int .i64 co] 75))
 generalize World.alloc W _ = w2 at *
 obtain ⟨db, hdb⟩ : ∃ x, x = W.heap.size := ⟨_, rfl⟩
 rw [← hdb] at HKD ⊢
 clear hdb HB HK HO hb
 have HM2 := iD (HH.out.below HB2.out)
 have k0 := HK2.out.c0
 have k1 := HK2.out.c1
 have o0 := HO2.out.c0
 go_wp2_with fail
 clear k0 k1 o0
 refine (lX An (some ⟨b0, off, none⟩) As ns.length cn nd cd n c i ns ds s _ w2 HM2.out H0.out HX.out).mono ?_
 rintro e w3 ⟨rfl, hb3⟩
 have HB3 := iD (HB2.out.trans (hb3.mono HB2.out.size))
 have HK3 := iD (HK2.out.below hb3 HK2.out.lt)
 have HO3 := iD (HO2.out.below hb3 HO2.out.lt)
 have HD3 := iD (HKD.out.below hb3 HKD.out.lt)
 have HM3 := iD (HM2.out.below hb3)
 obtain ⟨du, hdu⟩ : ∃ du, du = xG ns.length ns ds s i ⟨nm, kd, a, b, co⟩ := ⟨_, rfl⟩
 have HDU : Hid (du = 0 ∨ du = 1 ∨ du = 2 ∨ du = 3 ∨ du = 4) := by rw [hdu]; exact mt ..
 rw [← hdu]
 have HDE := iD hdu
 clear hb3 HB2 HK2 HO2 HKD HM2 hdu
 have d1 := HD3.out.c1
 have o1 := HO3.out.c1
 obtain rfl | rfl | rfl | rfl | rfl | rfl : kd = 1 ∨ kd = 2 ∨ kd = 3 ∨ kd = 4 ∨ kd = 5 ∨ kd = 6 := by omega
 ·obtain ⟨b, rfl⟩ := Int.eq_ofNat_of_zero_le (hb0 (by kernel_rfl)).1
  have hbn : b < ns.length := by have := (hb0 (by kernel_rfl)).2; omega
  have k0 := HK3.out.c0
  have k1 := HK3.out.c1
  go_wp2_with fail
  clear k0 k1 d1 o1
  refine (wS An (some ⟨b0, off, none⟩) As ns.length cn nd cd n c w3.heap.size w3.heap.size w3.heap.size ns ds s w3 HM3.out.hn HM3.out.hd HM3.out.hs lR lR lR HM3.out.sn HM3.out.sd (by omega) (fun _ => ⟨by omega, HN.out.e, HN.out.ne⟩) (fun _ => ⟨HN.out.a, HN.out.k⟩)).mono ?_
  (rintro e w4 ⟨hb4, ⟨hne, -⟩ | ⟨-, AC, CL, rfl, hOC, hIC⟩⟩; exact absurd H0.out hne)
  have HB4 := iD (HB3.out.trans (hb4.out.mono HB3.out.size))
  have HD4 := iD (HD3.out.below hb4.out HD3.out.lt)
  obtain ⟨g, rfl, -, hg⟩ := wG hOC.out (by omega)
  have hCa := yf hOC.out han
  have hCb := yf hOC.out hbn
  have HLV : Hid (lvE (zY ns.length ds s) ⟨nm, 1, a, b, co⟩ = (yn (gI CL a) || yn (gI CL b))) := by unfold Hid lvE; rw [xL hIC.out]; exact lm hIC.out han hbn
  have d2 := HD4.out.c2
  have d3 := HD4.out.c3
  have hLA : yn (gI CL a) = (bits BinOp.and IntKind.i64 (gI CL a) 1 != 0) := rfl
  have hLB : yn (gI CL b) = (bits BinOp.and IntKind.i64 (gI CL b) 1 != 0) := rfl
  rw [hLA, hLB] at HLV
  clear hb4 hOC hIC HB3 HK3 HO3 HD3 HM3 hLA hLB
  rcases hl : (bits BinOp.and IntKind.i64 (gI CL a) 1 != 0) with _ | _
  ·rw [hl, Bool.false_or] at HLV
   go_wp2_with fail
   go_ret
   exact ⟨zI (by rw [HLV.out]; rfl), HB4.out⟩
  ·rw [hl, Bool.true_or] at HLV
   go_wp2_with fail
   go_ret
   exact ⟨zI (by rw [HLV.out]; rfl), HB4.out⟩
 ·go_wp2_with fail
  go_ret
  exact ⟨zI (by rw [← HDE.out]; rfl), HB3.out⟩
 ·rcases HDU.out with rfl | rfl | rfl | rfl | rfl
  all_goals
   go_wp2_with fail
   go_ret
   exact ⟨zI (by rw [← HDE.out]; rfl), HB3.out⟩
 ·rcases HDU.out with rfl | rfl | rfl | rfl | rfl <;> rcases hp with rfl | rfl
  all_goals
   go_wp2_with fail
   go_ret
   exact ⟨zI (by rw [← HDE.out]; rfl), HB3.out⟩
 ·go_wp2_with fail
  go_ret
  exact ⟨zI (by rw [← HDE.out]; rfl), HB3.out⟩
 ·rcases HDU.out with rfl | rfl | rfl | rfl | rfl <;> rcases hp with rfl | rfl
  all_goals
   go_wp2_with fail
   go_ret
   exact ⟨zI (by rw [← HDE.out]; rfl), HB3.out⟩
end
section
open Go.RowKit
theorem kD (l : List Int) (x : Int) : wl l x = decide (x ∈ l) := by rw [Bool.eq_iff_iff, oB]; simp
structure RhQ (w : World) (nt op gr dv out : Array Value) (W : World) : Prop where
 bx : Bx3 w nt op gr W
 br : Blk W (w.heap.size + 3) 99 #[.bool false, .bool false, .bool false, .bool false, .bool false, .bool false, .bool false, .bool false, .bool false]
 bo : Blk W (w.heap.size + 4) 99 out
 bd : Blk W (w.heap.size + 5) 75 dv
section
variable {w W W' : World} {nt op gr dv out : Array Value}
theorem RhQ.later (h : RhQ w nt op gr dv out W) (hb : Below W.heap.size W W') : RhQ w nt op gr dv out W' := ⟨h.bx.later hb, h.br.below hb h.br.lt, h.bo.below hb h.bo.lt, h.bd.below hb h.bd.lt⟩
theorem Bx3.far (h : Bx3 w nt op gr W) {p : Addr} (hp : w.heap.size + 3 ≤ p.block) (u : Value) : Bx3 w nt op gr (W.setCell p u) := ⟨h.bl.setCell (by omega) u, h.bn.far (by omega) u, h.bo.far (by omega) u, h.bg.far (by omega) u⟩
theorem RhQ.set (h : RhQ w nt op gr dv out W) (j : Nat) (u : Value) : RhQ w nt op gr dv (out.setIfInBounds j u) (W.setCell ⟨w.heap.size + 4, j, none⟩ u) := ⟨h.bx.far (by simp) u, h.br.far (by simp) u, h.bo.set j u, h.bd.far (by simp) u⟩
theorem RhQ.drew (h : RhQ w nt op gr dv out W) : RhQ w nt op gr dv out W.drew := h.later (Below.refl _ _).drew
end
theorem kq (An Ad As Al Ap : Option Addr) (nn cn nd cd n c nl cl np cp i : Nat) (ns : List Nd) (ds : List Dv) (s : List Int) (ls : List Lk) (pr : List Int) (p co : Int) (x : Dv) (w : World) (h : yp w An Ad As Al Ap nn cn nd cd n c nl cl np cp ns ds s ls pr) (h0 : zL ns ds s = 0) (hx : ds[i]? = some x) (hp : p = 1 ∨ p = 2) :
 Calls Tryz.prog 50 #[.agg #[.slice An nn cn, .slice Ad nd cd], .slice As n c, .agg #[.int .i64 i, .int .i64 p], .agg #[.int .i64 co, .slice Al nl cl, .slice Ap np cp]] w fun e w' => e = .returned (.agg (wC (hzF nn ns ds s i p co ls pr x)).toArray) ∧ Below w.heap.size w w' := by
 obtain ⟨hln, hld, hls⟩ := h.ln
 subst hln
 have hN := wL.of (za h0).1
 have hsl := (za h0).2
 have hxm := List.mem_of_getElem? hx
 have ha0 := hN.a x hxm
 have hi : i < nd := by have := (List.getElem?_eq_some_iff.1 hx).1; omega
 have hnl := hN.nl
 have hdl := hN.dl
 have HN := iD hN
 have HLS := iD hls
 have hndn : nd ≤ n ∧ n ≤ nd := by omega
 have hin : i < n := by omega
 have hdlen : nd ≤ ds.length ∧ ds.length ≤ nd := by omega
 have HW0 := iD (Bx3.new w #[.slice An ns.length cn, .slice Ad nd cd] #[.int .i64 i, .int .i64 p] #[.int .i64 co, .slice Al nl cl, .slice Ap np cp])
 have hz3 : (((w.alloc (.cells #[.slice An ns.length cn, .slice Ad nd cd] 26)).alloc (.cells #[.int .i64 i, .int .i64 p] 66)).alloc (.cells #[.int .i64 co, .slice Al nl cl, .slice Ap np cp] 29)).heap.size = w.heap.size + 3 := by simp
 generalize hW3 : ((w.alloc (.cells #[.slice An ns.length cn, .slice Ad nd cd] 26)).alloc (.cells #[.int .i64 i, .int .i64 p] 66)).alloc (.cells #[.int .i64 co, .slice Al nl cl, .slice Ap np cp] 29) = W3 at *
 have HBR := iD ((Blk.new W3 99 #[.bool false, .bool false, .bool false, .bool false, .bool false, .bool false, .bool false, .bool false, .bool false]).alloc (.cells #[.bool false, .bool false, .bool false, .bool false, .bool false, .bool false, .bool false, .bool false, .bool false] 99))
 have HBO := iD (Blk.new (W3.alloc (.cells #[.bool false, .bool false, .bool false, .bool false, .bool false, .bool false, .bool false, .bool false, .bool false] 99)) 99 #[.bool false, .bool false, .bool false, .bool false, .bool false, .bool false, .bool false, .bool false, .bool false])
 rw [World.size_alloc, hz3] at HBO
 rw [hz3] at HBR
 have HBX := iD (HW0.out.later (((Below.refl _ _).alloc lR (.cells #[.bool false, .bool false, .bool false, .bool false, .bool false, .bool false, .bool false, .bool false, .bool false] 99)).alloc (by simp) (.cells #[.bool false, .bool false, .bool false, .bool false, .bool false, .bool false, .bool false, .bool false, .bool false] 99)))
 have hz5 : ((W3.alloc (.cells #[.bool false, .bool false, .bool false, .bool false, .bool false, .bool false, .bool false, .bool false, .bool false] 99)).alloc (.cells #[.bool false, .bool false, .bool false, .bool false, .bool false, .bool false, .bool false, .bool false, .bool false] 99)).heap.size = w.heap.size + 5 := by simp; omega
 subst hW3
 have HH := iD h
 have HX := iD hx
 have H0 := iD h0
 clear h hN hxm hx h0 hsl hls HW0 hz3
 go_enter Tryz.func50, Tryz.ntmps50
 go_upto_region 2 with (fail)
 generalize World.alloc (World.alloc (World.alloc (World.alloc (World.alloc w _) _) _) _) _ = W at *
 obtain ⟨b0, off, x', rfl, hb, hx', hc⟩ := (HH.out.below HBX.out.bl).hd.at (k := i) (fun _ => rfl) (by decide) hi
 obtain rfl : x = x' := by have := HX.out; rw [this] at hx'; exact Option.some.inj hx'
 have HF : Hid (∀ s, hzF ns.length ns ds s i p co ls pr x = if s.getD i 0 = p then [false, false, false, false, zl ls i, false, x.comp != co, true, false] else [false, decide (p = 2) && decide (xG ns.length ns ds s i x = 4), yS x.kind p (xG ns.length ns ds s i x) (lvE (zY ns.length ds s) x), yT ns ds s (zZ s i p), zl ls i, decide (p = 2) && decide (x.kind = 4) && !wl pr x.a, x.comp != co, false, false]) := fun _ => rfl
 obtain ⟨nm, kd, a, b, xco⟩ := x
 simp only at ha0 HF
 obtain ⟨a, rfl⟩ := Int.eq_ofNat_of_zero_le ha0.1
 have c0 : W.cell? ⟨b0, off + i * 5, none⟩ = some (.string nm) := hc 0 _ rfl
 have c1 : W.cell? ⟨b0, off + i * 5 + 1, none⟩ = some (.int .i64 kd) := hc 1 _ rfl
 have c2 : W.cell? ⟨b0, off + i * 5 + 2, none⟩ = some (.int .i64 a) := hc 2 _ rfl
 have c3 : W.cell? ⟨b0, off + i * 5 + 3, none⟩ = some (.int .i64 b) := hc 3 _ rfl
 have c4 : W.cell? ⟨b0, off + i * 5 + 4, none⟩ = some (.int .i64 xco) := hc 4 _ rfl
 have k1 := HBX.out.bn.c1
 have o0 := HBX.out.bo.c0
 clear hc hx' hb
 go_upto_region 3 with (fail)
 clear c0 c1 c2 c3 c4 k1 o0
 have HQ2 : Hid (RhQ w #[.slice An ns.length cn, .slice (some ⟨b0, off, none⟩) nd cd] #[.int .i64 i, .int .i64 p] #[.int .i64 co, .slice Al nl cl, .slice Ap np cp] #[.string nm, .int .i64 kd, .int .i64 a, .int .i64 b, .int .i64 xco] #[.bool false, .bool false, .bool false, .bool false, .bool false, .bool false, .bool false, .bool false, .bool false] (W.alloc (.cells #[.string nm, .int .i64 kd, .int .i64 a, .int .i64 b, .int .i64 xco] 75))) := ⟨HBX.out.later ((Below.refl _ _).alloc lR _), HBR.out.alloc _, HBO.out.alloc _, by have := Blk.new W 75 #[.string nm, .int .i64 kd, .int .i64 a, .int .i64 b, .int .i64 xco]; rw [hz5] at this; exact this⟩
 try rw [hz5]
 clear HBX HBR HBO
 generalize World.alloc W _ = w2 at *
 clear hz5
 obtain ⟨Ad, hAd⟩ : ∃ Ad, Ad = some (⟨b0, off, none⟩ : Addr) := ⟨_, rfl⟩
 rw [← hAd] at HQ2 HH
 clear hAd W
 have HM2 := iD (HH.out.below HQ2.out.bx.bl)
 have o0 := HQ2.out.bx.bo.c0
 have o1 := HQ2.out.bx.bo.c1
 have g0 := HQ2.out.bx.bg.c0
 have g1 := HQ2.out.bx.bg.c1
 have g2 := HQ2.out.bx.bg.c2
 go_wp2_with fail
 clear o0 o1 g0 g1 g2
 refine (pz Al Ap nl cl np cp ls co i w2 HM2.out.hl).mono ?_
 rintro e w3 ⟨rfl, hb3⟩
 have HQ3 := iD (HQ2.out.later hb3)
 have HM3 := iD (HM2.out.below hb3)
 clear HQ2 HM2 hb3
 have g0 := HQ3.out.bx.bg.c0
 have g1 := HQ3.out.bx.bg.c1
 have g2 := HQ3.out.bx.bg.c2
 have d1 := HQ3.out.bd.cell 1
 have d2 := HQ3.out.bd.cell 2
 have d4 := HQ3.out.bd.cell 4
 have e4 := HQ3.out.bo.cell 4
 have y4 := HQ3.out.bo.frozen 4
 have e6 := HQ3.out.bo.cell 6
 have y6 := HQ3.out.bo.frozen 6
 have HQ4 : Hid (RhQ w #[.slice An ns.length cn, .slice Ad nd cd] #[.int .i64 i, .int .i64 p] #[.int .i64 co, .slice Al nl cl, .slice Ap np cp] #[.string nm, .int .i64 kd, .int .i64 a, .int .i64 b, .int .i64 xco] #[.bool false, .bool false, .bool false, .bool false, .bool (zl ls i), .bool false, .bool false, .bool false, .bool false] _) := HQ3.out.set 4 (.bool (zl ls i))
 have HQ6 : Hid (RhQ w #[.slice An ns.length cn, .slice Ad nd cd] #[.int .i64 i, .int .i64 p] #[.int .i64 co, .slice Al nl cl, .slice Ap np cp] #[.string nm, .int .i64 kd, .int .i64 a, .int .i64 b, .int .i64 xco] #[.bool false, .bool false, .bool false, .bool false, .bool (zl ls i), .bool false, .bool (xco != co), .bool false, .bool false] _) := HQ4.out.set 6 (.bool (xco != co))
 go_upto_region 5 with (fail)
 clear g0 g1 g2 d1 d2 d4 e4 y4 e6 y6 HQ3 HQ4
 generalize World.setCell (World.setCell w3 _ _) _ _ = w6 at *
 have HM6 := iD (HH.out.below HQ6.out.bx.bl)
 obtain ⟨bs, os, sv, hAs, hbs, hsv, hcs⟩ := HM6.out.hs.at1 (k := i) (by omega)
 have HGS := iD (yG hsv)
 have HPC : Hid (w6.cell? ⟨bs, os + i, none⟩ = some (.int .i64 sv)) := hcs
 subst hAs
 clear hcs hsv hbs
 refine zk (S := fun W' => (W'.cell? ⟨w.heap.size + 1, 0, none⟩ = some (.int .i64 i) ∧ W'.cell? ⟨w.heap.size + 1, 1, none⟩ = some (.int .i64 p)) ∧ W'.cell? ⟨bs, os + i, none⟩ = some (.int .i64 sv)) (J := []) (n := _) ((0, true) :: (1, true) :: (5, true) :: (2, true) :: (6, true) :: (3, true) :: (4, true) :: (7, true) :: []) (by as_aux_lemma => kernel_rfl) (by rfl) (zM (k := 1) (by go_simp; rfl) (zM (k := 6) (by go_simp; rfl) yg)) ?_ (fun _ _ _ _ _ h => h) (fun Q2 A hsz hbase hn2 AA => ?_)
 ·exact ⟨⟨HQ6.out.bx.bo.cell 0, HQ6.out.bx.bo.cell 1⟩, HPC.out⟩
 try dsimp only at AA
 obtain ⟨b1, b6, -⟩ := hbase
 refine oM 0 33 ?_ rfl rfl rfl (zA rfl) AA (fun ρ AB => ?_) ?_
 rotate_left
 ·(have e1 := tm AB hsz 1 rfl (zJ b1); exact e1)
 refine oT 1 34 ?_ rfl rfl (zA rfl) AA (fun ρ AB w hSw => ?_) ?_
 rotate_left
 ·(have e6 := tm AB hsz 6 rfl (zD rfl (zJ b6)); clear AB; (try dsimp only at hSw); go_simp; try with_reducible rfl)
 refine oT 5 38 ?_ rfl rfl (zA rfl) AA (fun ρ AB w hSw => ?_) ?_
 rotate_left
 ·(have e6 := tm AB hsz 6 rfl (zD rfl (zD rfl (zJ b6))); clear AB; (try dsimp only at hSw); go_simp; try with_reducible rfl)
 refine oT 2 35 ?_ rfl rfl (zA rfl) AA (fun ρ AB w hSw => ?_) ?_
 rotate_left
 ·(have e34 := tm AB hsz 34 rfl (zD rfl zB); clear AB; (try dsimp only at hSw); have o0 := hSw.1.1; clear hSw; go_simp; try with_reducible rfl)
 refine oT 6 39 ?_ rfl rfl (zA rfl) AA (fun ρ AB w hSw => ?_) ?_
 rotate_left
 ·(have e38 := tm AB hsz 38 rfl (zD rfl zB); clear AB; (try dsimp only at hSw); have o1 := hSw.1.2; clear hSw; go_simp; try with_reducible rfl)
 refine oT 3 36 ?_ rfl rfl (zA rfl) AA (fun ρ AB w hSw => ?_) ?_
 rotate_left
 ·(have e33 := tm AB hsz 33 rfl (zH rfl rfl rfl rfl zB); have e35 := tm AB hsz 35 rfl (zD rfl zB); clear AB; (try dsimp only at hSw); go_simp; try with_reducible rfl)
 refine oT 4 37 ?_ rfl rfl (zA rfl) AA (fun ρ AB w hSw => ?_) ?_
 rotate_left
 ·(have e36 := tm AB hsz 36 rfl zB; clear AB; (try dsimp only at hSw); have ss := hSw.2; clear hSw; go_simp; try with_reducible rfl)
 refine oT 7 40 ?_ rfl rfl (zA rfl) AA (fun ρ AB w hSw => ?_) ?_
 rotate_left
 ·(have e37 := tm AB hsz 37 rfl zB; have e39 := tm AB hsz 39 rfl (zD rfl (zD rfl zB)); clear AB; (try dsimp only at hSw); go_simp; try with_reducible rfl)
 refine ye hn2 ?_
 clear AA hn2 b1 b6 hsz A Q2
 simp only [yd, yJ, xJ, vD, vE]
 have HQ7 := iD HQ6.out.drew
 clear HQ6 HM6 HPC HM3
 generalize World.drew w6 = w7 at *
 have HM7 := iD (HH.out.below HQ7.out.bx.bl)
 by_cases hq : sv = p
 ·have q : (sv == p) = true := by simpa using hq
  have e7 := HQ7.out.bo.cell 7
  have y7 := HQ7.out.bo.frozen 7
  have HQ8 : Hid (RhQ w #[.slice An ns.length cn, .slice Ad nd cd] #[.int .i64 i, .int .i64 p] #[.int .i64 co, .slice Al nl cl, .slice Ap np cp] #[.string nm, .int .i64 kd, .int .i64 a, .int .i64 b, .int .i64 xco] #[.bool false, .bool false, .bool false, .bool false, .bool (zl ls i), .bool false, .bool (xco != co), .bool true, .bool false] _) := HQ7.out.set 7 (.bool (true))
  go_upto_region 7 with (fail)
  clear e7 y7 HQ7 HM7
  generalize World.setCell w7 _ _ = w8 at *
  have e0 := HQ8.out.bo.cell 0
  have r0 := HQ8.out.br.cell 0
  have y0 := HQ8.out.br.frozen 0
  have e1 := HQ8.out.bo.cell 1
  have r1 := HQ8.out.br.cell 1
  have y1 := HQ8.out.br.frozen 1
  have e2 := HQ8.out.bo.cell 2
  have r2 := HQ8.out.br.cell 2
  have y2 := HQ8.out.br.frozen 2
  have e3 := HQ8.out.bo.cell 3
  have r3 := HQ8.out.br.cell 3
  have y3 := HQ8.out.br.frozen 3
  have e4 := HQ8.out.bo.cell 4
  have r4 := HQ8.out.br.cell 4
  have y4 := HQ8.out.br.frozen 4
  have e5 := HQ8.out.bo.cell 5
  have r5 := HQ8.out.br.cell 5
  have y5 := HQ8.out.br.frozen 5
  have e6 := HQ8.out.bo.cell 6
  have r6 := HQ8.out.br.cell 6
  have y6 := HQ8.out.br.frozen 6
  have e7 := HQ8.out.bo.cell 7
  have r7 := HQ8.out.br.cell 7
  have y7 := HQ8.out.br.frozen 7
  have e8 := HQ8.out.bo.cell 8
  have r8 := HQ8.out.br.cell 8
  have y8 := HQ8.out.br.frozen 8
  have HX : Hid (Below w.heap.size w (((((((((w8.setCell ⟨w.heap.size + 3, 0, none⟩ (.bool (false))).setCell ⟨w.heap.size + 3, 1, none⟩ (.bool (false))).setCell ⟨w.heap.size + 3, 2, none⟩ (.bool (false))).setCell ⟨w.heap.size + 3, 3, none⟩ (.bool (false))).setCell ⟨w.heap.size + 3, 4, none⟩ (.bool (zl ls i))).setCell ⟨w.heap.size + 3, 5, none⟩ (.bool (false))).setCell ⟨w.heap.size + 3, 6, none⟩ (.bool (xco != co))).setCell ⟨w.heap.size + 3, 7, none⟩ (.bool (true))).setCell ⟨w.heap.size + 3, 8, none⟩ (.bool (false)))) := (((((((((HQ8.out.bx.bl.setCell (p := ⟨w.heap.size + 3, 0, none⟩) (by simp) (.bool (false))).setCell (p := ⟨w.heap.size + 3, 1, none⟩) (by simp) (.bool (false))).setCell (p := ⟨w.heap.size + 3, 2, none⟩) (by simp) (.bool (false))).setCell (p := ⟨w.heap.size + 3, 3, none⟩) (by simp) (.bool (false))).setCell (p := ⟨w.heap.size + 3, 4, none⟩) (by simp) (.bool (zl ls i))).setCell (p := ⟨w.heap.size + 3, 5, none⟩) (by simp) (.bool (false))).setCell (p := ⟨w.heap.size + 3, 6, none⟩) (by simp) (.bool (xco != co))).setCell (p := ⟨w.heap.size + 3, 7, none⟩) (by simp) (.bool (true))).setCell (p := ⟨w.heap.size + 3, 8, none⟩) (by simp) (.bool (false)))
  have HR : Hid (hzF ns.length ns ds s i p co ls pr ⟨nm, kd, a, b, xco⟩ = [false, false, false, false, zl ls i, false, xco != co, true, false]) := by
   unfold Hid
   rw [HF.out s, if_pos (by rw [HGS.out]; exact hq)]
  generalize (zl ls i) = v4 at *
  generalize (xco != co) = v6 at *
  go_wp2_with fail
  exact bodyPost_ret (v := .agg #[.bool false, .bool false, .bool false, .bool false, .bool v4, .bool false, .bool v6, .bool true, .bool false]) (by simp [results, Tryz.results50, go_sem, r0, r1, r2, r3, r4, r5, r6, r7, r8]) rfl ⟨by rw [HR.out]; rfl, HX.out⟩
 have q : (sv == p) = false := by simpa using hq
 have HNF : Hid (¬ s.getD i 0 = p) := by rw [HGS.out]; exact hq
 clear hq
 obtain ⟨As, hAs⟩ : ∃ As, As = some (⟨bs, os, none⟩ : Addr) := ⟨_, rfl⟩
 rw [← hAs] at HM7 HH ⊢
 clear hAs
 have k0 := HQ7.out.bx.bn.c0
 have k1 := HQ7.out.bx.bn.c1
 have o0 := HQ7.out.bx.bo.c0
 have o1 := HQ7.out.bx.bo.c1
 go_wp2_with fail
 clear k0 k1 o0 o1 q
 refine (lX An Ad As ns.length cn nd cd n c i ns ds s _ w7 ⟨HM7.out.hn, HM7.out.hd, HM7.out.hs, Sl.nil _ _ _, Sl.nil _ _ _, HM7.out.la, HM7.out.sn, HM7.out.sd⟩ H0.out HX.out).mono ?_
 rintro e w8 ⟨rfl, hb8⟩
 have HQ8 := iD (HQ7.out.later hb8)
 have HM8 := iD (HM7.out.below hb8)
 have HBA := iD (lV An Ad As ns.length cn nd cd n c i ns ds s p ⟨nm, kd, a, b, xco⟩)
 obtain ⟨du, hdu⟩ : ∃ du, du = xG ns.length ns ds s i ⟨nm, kd, a, b, xco⟩ := ⟨_, rfl⟩
 rw [← hdu] at HBA ⊢
 have HDE := iD hdu
 clear hb8 HQ7 HM7 hdu
 have o0 := HQ8.out.bx.bo.c0
 have o1 := HQ8.out.bx.bo.c1
 have e1 := HQ8.out.bo.cell 1
 have y1 := HQ8.out.bo.frozen 1
 have HQ9 : Hid (RhQ w #[.slice An ns.length cn, .slice Ad nd cd] #[.int .i64 i, .int .i64 p] #[.int .i64 co, .slice Al nl cl, .slice Ap np cp] #[.string nm, .int .i64 kd, .int .i64 a, .int .i64 b, .int .i64 xco] #[.bool false, .bool (decide (p = 2) && decide (du = 4)), .bool false, .bool false, .bool (zl ls i), .bool false, .bool (xco != co), .bool false, .bool false] _) := HQ8.out.set 1 (.bool (decide (p = 2) && decide (du = 4)))
 rcases hp with rfl | rfl
 ·have HV1 : Hid ((decide ((1 : Int) = 2) && decide (du = 4)) = false) := rfl
  rw [HV1.out] at HQ9
  go_upto_region 10 with (fail)
  clear o0 o1 e1 y1 HQ8
  generalize World.setCell w8 _ _ = w9 at *
  have HM9 := iD (HH.out.below HQ9.out.bx.bl)
  have k0 := HQ9.out.bx.bn.c0
  have k1 := HQ9.out.bx.bn.c1
  have o0 := HQ9.out.bx.bo.c0
  have o1 := HQ9.out.bx.bo.c1
  go_wp2_with fail
  clear k0 k1 o0 o1 HM8
  refine (HBA.out w9 ⟨HM9.out.hn, HM9.out.hd, HM9.out.hs, Sl.nil _ _ _, Sl.nil _ _ _, HM9.out.la, HM9.out.sn, HM9.out.sd⟩ H0.out HX.out (by simp)).mono ?_
  rintro e w10 ⟨rfl, hb10⟩
  have HQ10 := iD (HQ9.out.later hb10)
  clear hb10 HQ9 HM9 HBA
  have e2 := HQ10.out.bo.cell 2
  have y2 := HQ10.out.bo.frozen 2
  have HQ11 : Hid (RhQ w #[.slice An ns.length cn, .slice Ad nd cd] #[.int .i64 i, .int .i64 1] #[.int .i64 co, .slice Al nl cl, .slice Ap np cp] #[.string nm, .int .i64 kd, .int .i64 a, .int .i64 b, .int .i64 xco] #[.bool false, .bool false, .bool (yS kd 1 du (lvE (zY ns.length ds s) ⟨nm, kd, a, b, xco⟩)), .bool false, .bool (zl ls i), .bool false, .bool (xco != co), .bool false, .bool false] _) := HQ10.out.set 2 (.bool (yS kd 1 du (lvE (zY ns.length ds s) ⟨nm, kd, a, b, xco⟩)))
  go_upto_region 11 with (fail)
  clear e2 y2 HQ10
  generalize World.setCell w10 _ _ = w11 at *
  have HQ12 := iD HQ11.out.drew
  have HM12 := iD (HH.out.below HQ12.out.bx.bl)
  clear HQ11
  refine zk (S := fun W' => ((W'.cell? ⟨w.heap.size, 0, none⟩ = some (.slice An ns.length cn) ∧ W'.cell? ⟨w.heap.size, 1, none⟩ = some (.slice Ad nd cd)) ∧ W'.cell? ⟨w.heap.size + 1, 0, none⟩ = some (.int .i64 i)) ∧ W'.cell? ⟨w.heap.size + 1, 1, none⟩ = some (.int .i64 1)) (J := []) (n := _) ((1, true) :: (2, true) :: (3, true) :: (5, true) :: (0, true) :: (4, true) :: (6, true) :: (7, false) :: (8, false) :: (9, true) :: (10, true) :: (11, true) :: (12, true) :: (13, true) :: (14, true) :: (15, true) :: []) (by as_aux_lemma => kernel_rfl) (by rfl) (zM (k := 1) (by go_simp; rfl) (zM (k := 6) (by go_simp; rfl) (zM (k := 4) (by go_simp; rfl) yg))) ?_ (fun _ _ _ _ _ h => h) (fun Q2 A hsz hbase hn2 AA => ?_)
  ·exact ⟨⟨⟨HQ12.out.bx.bn.cell 0, HQ12.out.bx.bn.cell 1⟩, HQ12.out.bx.bo.cell 0⟩, HQ12.out.bx.bo.cell 1⟩
  try dsimp only at AA
  obtain ⟨b1, b6, b4, -⟩ := hbase
  refine oM 1 66 ?_ rfl rfl rfl (zA rfl) AA (fun ρ AB => ?_) ?_
  rotate_left
  ·(have e1 := tm AB hsz 1 rfl (zJ b1); exact e1)
  refine oM 2 67 ?_ rfl rfl rfl (zA rfl) AA (fun ρ AB => ?_) ?_
  rotate_left
  ·(have e1 := tm AB hsz 1 rfl (zD rfl (zJ b1)); exact e1)
  refine oT 3 68 ?_ rfl rfl (zA rfl) AA (fun ρ AB w hSw => ?_) ?_
  rotate_left
  ·(have e6 := tm AB hsz 6 rfl (zD rfl (zD rfl (zJ b6))); clear AB; (try dsimp only at hSw); go_simp; try with_reducible rfl)
  refine oT 5 70 ?_ rfl rfl (zA rfl) AA (fun ρ AB w hSw => ?_) ?_
  rotate_left
  ·(have e6 := tm AB hsz 6 rfl (zD rfl (zD rfl (zD rfl (zJ b6)))); clear AB; (try dsimp only at hSw); go_simp; try with_reducible rfl)
  refine oT 0 65 ?_ rfl rfl (zA rfl) AA (fun ρ AB w hSw => ?_) ?_
  rotate_left
  ·(have e4 := tm AB hsz 4 rfl (zH rfl rfl rfl rfl (zJ b4)); clear AB; (try dsimp only at hSw); have k0 := hSw.1.1.1; have k1 := hSw.1.1.2; clear hSw; go_simp; try with_reducible rfl)
  refine oT 4 69 ?_ rfl rfl (zA rfl) AA (fun ρ AB w hSw => ?_) ?_
  rotate_left
  ·(have e68 := tm AB hsz 68 rfl (zD rfl (zD rfl zB)); clear AB; (try dsimp only at hSw); have o0 := hSw.1.2; clear hSw; go_simp; try with_reducible rfl)
  refine oT 6 71 ?_ rfl rfl (zA rfl) AA (fun ρ AB w hSw => ?_) ?_
  rotate_left
  ·(have e70 := tm AB hsz 70 rfl (zD rfl (zD rfl zB)); clear AB; (try dsimp only at hSw); have o1 := hSw.2; clear hSw; go_simp; try with_reducible rfl)
  refine yB (i := 7) (d := 72) (vs := ?_) rfl rfl rfl (zA rfl) (fun ρ AB => ?_) ?_ ?_
  rotate_left
  ·(have e67 := tm AB hsz 67 rfl (zH rfl rfl rfl rfl (zD rfl zB)); have e69 := tm AB hsz 69 rfl (zD rfl zB); have e71 := tm AB hsz 71 rfl zB; simp only [List.map_toArray, List.map_cons, List.map_nil, e67, e69, e71]; try with_reducible rfl)
  ·(intro w; go_simp)
  refine (vG As n c w11.drew.heap.size s i 1 w11.drew HM12.out.hs lR (by omega)).mono ?_
  rintro e w13 ⟨Aw, cw, rfl, hOw, hb13⟩
  rw [yq, HLS.out] at hOw ⊢
  have HQ13 := iD (HQ12.out.later hb13.out)
  have HM13 := iD (HM12.out.below hb13.out)
  have HSW : Hid (Sl w13 w13.heap.size 1 Aw n cw (zK (zZ s i 1))) := hOw.out.sl
  clear hOw hb13 HQ12 HM12
  refine ⟨_, rfl, fun _ => ?_, fun AA' => ?_⟩
  ·exact ⟨⟨⟨HQ13.out.bx.bn.cell 0, HQ13.out.bx.bn.cell 1⟩, HQ13.out.bx.bo.cell 0⟩, HQ13.out.bx.bo.cell 1⟩
  replace AA := AA' rfl
  clear AA'
  try dsimp only at AA
  refine yB (i := 8) (d := 73) (vs := ?_) rfl rfl rfl (zA rfl) (fun ρ AB => ?_) ?_ ?_
  rotate_left
  ·(have e65 := tm AB hsz 65 rfl (zD rfl (zD rfl (zD rfl zB))); have e66 := tm AB hsz 66 rfl (zH rfl rfl rfl rfl (zD rfl (zD rfl (zD rfl zB)))); have e72 := tm AB hsz 72 rfl zB; simp only [List.map_toArray, List.map_cons, List.map_nil, e65, e66, e72]; try with_reducible rfl)
  ·(intro w; go_simp)
  refine (rq An Ad As Aw ns.length cn nd cd n c n cw ns ds s (zZ s i 1) w13 HM13.out.hn HM13.out.hd HM13.out.hs HSW.out HM13.out.sn HM13.out.sd (by omega) H0.out (yI H0.out i (by simp)) (by omega) (by omega) ⟨HN.out.e, HN.out.ne⟩ ⟨HN.out.a, HN.out.k⟩).mono ?_
  rintro e w14 ⟨Ao, mo, coo, lo, ko, rfl, hlo1, hlo2, hlo3, hb14⟩
  have HQ14 := iD (HQ13.out.later hb14.out)
  have HM14 := iD (HM13.out.below hb14.out)
  have HLO := iD (tC hlo3.out hlo1.out)
  clear hlo1 hlo3 hb14 HQ13 HM13 HSW
  refine ⟨_, rfl, fun _ => ?_, fun AA' => ?_⟩
  ·exact ⟨⟨⟨HQ14.out.bx.bn.cell 0, HQ14.out.bx.bn.cell 1⟩, HQ14.out.bx.bo.cell 0⟩, HQ14.out.bx.bo.cell 1⟩
  replace AA := AA' rfl
  clear AA'
  try dsimp only at AA
  refine oM 9 64 ?_ rfl rfl rfl (zA rfl) AA (fun ρ AB => ?_) ?_
  rotate_left
  ·(have e73 := tm AB hsz 73 rfl zB; exact e73)
  refine oT 10 74 ?_ rfl rfl (zA rfl) AA (fun ρ AB w hSw => ?_) ?_
  rotate_left
  ·(have e64 := tm AB hsz 64 rfl zB; clear AB; (try dsimp only at hSw); go_simp; try with_reducible rfl)
  refine oT 11 75 ?_ rfl rfl (zA rfl) AA (fun ρ AB w hSw => ?_) ?_
  rotate_left
  ·(have e64 := tm AB hsz 64 rfl (zD rfl zB); clear AB; (try dsimp only at hSw); go_simp; try with_reducible rfl)
  refine oT 12 76 ?_ rfl rfl (zA rfl) AA (fun ρ AB w hSw => ?_) ?_
  rotate_left
  ·(have e64 := tm AB hsz 64 rfl (zD rfl (zD rfl zB)); clear AB; (try dsimp only at hSw); go_simp; try with_reducible rfl)
  refine oT 13 13 ?_ rfl rfl (zA rfl) AA (fun ρ AB w hSw => ?_) ?_
  rotate_left
  ·(have e74 := tm AB hsz 74 rfl (zD rfl (zD rfl zB)); clear AB; (try dsimp only at hSw); go_simp; try with_reducible rfl)
  refine oT 14 14 ?_ rfl rfl (zA rfl) AA (fun ρ AB w hSw => ?_) ?_
  rotate_left
  ·(have e75 := tm AB hsz 75 rfl (zD rfl (zD rfl zB)); clear AB; (try dsimp only at hSw); go_simp; try with_reducible rfl)
  refine oT 15 15 ?_ rfl rfl (zA rfl) AA (fun ρ AB w hSw => ?_) ?_
  rotate_left
  ·(have e76 := tm AB hsz 76 rfl (zD rfl (zD rfl zB)); clear AB; (try dsimp only at hSw); go_simp; try with_reducible rfl)
  refine ye hn2 ?_
  clear AA hn2 b1 b6 b4 hsz A Q2
  simp only [yd, yJ, xJ, vD, vE]
  have e3 := HQ14.out.bo.cell 3
  have y3 := HQ14.out.bo.frozen 3
  have HQ15 : Hid (RhQ w #[.slice An ns.length cn, .slice Ad nd cd] #[.int .i64 i, .int .i64 1] #[.int .i64 co, .slice Al nl cl, .slice Ap np cp] #[.string nm, .int .i64 kd, .int .i64 a, .int .i64 b, .int .i64 xco] #[.bool false, .bool false, .bool (yS kd 1 du (lvE (zY ns.length ds s) ⟨nm, kd, a, b, xco⟩)), .bool (yT ns ds s (zZ s i 1)), .bool (zl ls i), .bool false, .bool (xco != co), .bool false, .bool false] _) := HQ14.out.set 3 (.bool (yT ns ds s (zZ s i 1)))
  rw [← HLO.out] at HQ15
  go_upto_region 13 with (fail)
  clear e3 y3 HQ14 hlo2
  rw [HLO.out] at HQ15 ⊢
  clear HLO
  generalize World.setCell w14 _ _ = w15 at *
  rcases hk4 : (kd == 4) with _ | _
  ·have HQK : Hid (decide (kd = 4) = false) := hk4
   have o0 := HQ15.out.bx.bo.c0
   have o1 := HQ15.out.bx.bo.c1
   have g0 := HQ15.out.bx.bg.c0
   have g1 := HQ15.out.bx.bg.c1
   have g2 := HQ15.out.bx.bg.c2
   have d1 := HQ15.out.bd.cell 1
   have d2 := HQ15.out.bd.cell 2
   have d4 := HQ15.out.bd.cell 4
   have e5 := HQ15.out.bo.cell 5
   have y5 := HQ15.out.bo.frozen 5
   have HQ16 : Hid (RhQ w #[.slice An ns.length cn, .slice Ad nd cd] #[.int .i64 i, .int .i64 1] #[.int .i64 co, .slice Al nl cl, .slice Ap np cp] #[.string nm, .int .i64 kd, .int .i64 a, .int .i64 b, .int .i64 xco] #[.bool false, .bool false, .bool (yS kd 1 du (lvE (zY ns.length ds s) ⟨nm, kd, a, b, xco⟩)), .bool (yT ns ds s (zZ s i 1)), .bool (zl ls i), .bool false, .bool (xco != co), .bool false, .bool false] _) := HQ15.out.set 5 (.bool (false))
   go_upto_region 14 with (fail)
   clear e5 y5 o0 o1 g0 g1 g2 d1 d2 d4 HQ15 HM14
   generalize World.setCell w15 _ _ = w17 at *
   have e0 := HQ16.out.bo.cell 0
   have r0 := HQ16.out.br.cell 0
   have y0 := HQ16.out.br.frozen 0
   have e1 := HQ16.out.bo.cell 1
   have r1 := HQ16.out.br.cell 1
   have y1 := HQ16.out.br.frozen 1
   have e2 := HQ16.out.bo.cell 2
   have r2 := HQ16.out.br.cell 2
   have y2 := HQ16.out.br.frozen 2
   have e3 := HQ16.out.bo.cell 3
   have r3 := HQ16.out.br.cell 3
   have y3 := HQ16.out.br.frozen 3
   have e4 := HQ16.out.bo.cell 4
   have r4 := HQ16.out.br.cell 4
   have y4 := HQ16.out.br.frozen 4
   have e5 := HQ16.out.bo.cell 5
   have r5 := HQ16.out.br.cell 5
   have y5 := HQ16.out.br.frozen 5
   have e6 := HQ16.out.bo.cell 6
   have r6 := HQ16.out.br.cell 6
   have y6 := HQ16.out.br.frozen 6
   have e7 := HQ16.out.bo.cell 7
   have r7 := HQ16.out.br.cell 7
   have y7 := HQ16.out.br.frozen 7
   have e8 := HQ16.out.bo.cell 8
   have r8 := HQ16.out.br.cell 8
   have y8 := HQ16.out.br.frozen 8
   have HX : Hid (Below w.heap.size w (((((((((w17.setCell ⟨w.heap.size + 3, 0, none⟩ (.bool (false))).setCell ⟨w.heap.size + 3, 1, none⟩ (.bool (false))).setCell ⟨w.heap.size + 3, 2, none⟩ (.bool (yS kd 1 du (lvE (zY ns.length ds s) ⟨nm, kd, a, b, xco⟩)))).setCell ⟨w.heap.size + 3, 3, none⟩ (.bool (yT ns ds s (zZ s i 1)))).setCell ⟨w.heap.size + 3, 4, none⟩ (.bool (zl ls i))).setCell ⟨w.heap.size + 3, 5, none⟩ (.bool (false))).setCell ⟨w.heap.size + 3, 6, none⟩ (.bool (xco != co))).setCell ⟨w.heap.size + 3, 7, none⟩ (.bool (false))).setCell ⟨w.heap.size + 3, 8, none⟩ (.bool (false)))) := (((((((((HQ16.out.bx.bl.setCell (p := ⟨w.heap.size + 3, 0, none⟩) (by simp) (.bool (false))).setCell (p := ⟨w.heap.size + 3, 1, none⟩) (by simp) (.bool (false))).setCell (p := ⟨w.heap.size + 3, 2, none⟩) (by simp) (.bool (yS kd 1 du (lvE (zY ns.length ds s) ⟨nm, kd, a, b, xco⟩)))).setCell (p := ⟨w.heap.size + 3, 3, none⟩) (by simp) (.bool (yT ns ds s (zZ s i 1)))).setCell (p := ⟨w.heap.size + 3, 4, none⟩) (by simp) (.bool (zl ls i))).setCell (p := ⟨w.heap.size + 3, 5, none⟩) (by simp) (.bool (false))).setCell (p := ⟨w.heap.size + 3, 6, none⟩) (by simp) (.bool (xco != co))).setCell (p := ⟨w.heap.size + 3, 7, none⟩) (by simp) (.bool (false))).setCell (p := ⟨w.heap.size + 3, 8, none⟩) (by simp) (.bool (false)))
   have HR : Hid (hzF ns.length ns ds s i 1 co ls pr ⟨nm, kd, a, b, xco⟩ = [false, false, yS kd 1 du (lvE (zY ns.length ds s) ⟨nm, kd, a, b, xco⟩), yT ns ds s (zZ s i 1), zl ls i, false, xco != co, false, false]) := by
    unfold Hid
    rw [HF.out s, if_neg HNF.out, HDE.out.symm, HQK.out]; rfl
   generalize (yS kd 1 du (lvE (zY ns.length ds s) ⟨nm, kd, a, b, xco⟩)) = v2 at *
   generalize (yT ns ds s (zZ s i 1)) = v3 at *
   generalize (zl ls i) = v4 at *
   generalize (xco != co) = v6 at *
   go_wp2_with fail
   exact bodyPost_ret (v := .agg #[.bool false, .bool false, .bool v2, .bool v3, .bool v4, .bool false, .bool v6, .bool false, .bool false]) (by simp [results, Tryz.results50, go_sem, r0, r1, r2, r3, r4, r5, r6, r7, r8]) rfl ⟨by rw [HR.out]; rfl, HX.out⟩
  ·have HQK : Hid (decide (kd = 4) = true) := hk4
   have o0 := HQ15.out.bx.bo.c0
   have o1 := HQ15.out.bx.bo.c1
   have g0 := HQ15.out.bx.bg.c0
   have g1 := HQ15.out.bx.bg.c1
   have g2 := HQ15.out.bx.bg.c2
   have d1 := HQ15.out.bd.cell 1
   have d2 := HQ15.out.bd.cell 2
   have d4 := HQ15.out.bd.cell 4
   have e5 := HQ15.out.bo.cell 5
   have y5 := HQ15.out.bo.frozen 5
   have HQ16 : Hid (RhQ w #[.slice An ns.length cn, .slice Ad nd cd] #[.int .i64 i, .int .i64 1] #[.int .i64 co, .slice Al nl cl, .slice Ap np cp] #[.string nm, .int .i64 kd, .int .i64 a, .int .i64 b, .int .i64 xco] #[.bool false, .bool false, .bool (yS kd 1 du (lvE (zY ns.length ds s) ⟨nm, kd, a, b, xco⟩)), .bool (yT ns ds s (zZ s i 1)), .bool (zl ls i), .bool false, .bool (xco != co), .bool false, .bool false] _) := HQ15.out.set 5 (.bool (false))
   go_upto_region 14 with (fail)
   clear e5 y5 o0 o1 g0 g1 g2 d1 d2 d4 HQ15 HM14
   generalize World.setCell w15 _ _ = w17 at *
   have e0 := HQ16.out.bo.cell 0
   have r0 := HQ16.out.br.cell 0
   have y0 := HQ16.out.br.frozen 0
   have e1 := HQ16.out.bo.cell 1
   have r1 := HQ16.out.br.cell 1
   have y1 := HQ16.out.br.frozen 1
   have e2 := HQ16.out.bo.cell 2
   have r2 := HQ16.out.br.cell 2
   have y2 := HQ16.out.br.frozen 2
   have e3 := HQ16.out.bo.cell 3
   have r3 := HQ16.out.br.cell 3
   have y3 := HQ16.out.br.frozen 3
   have e4 := HQ16.out.bo.cell 4
   have r4 := HQ16.out.br.cell 4
   have y4 := HQ16.out.br.frozen 4
   have e5 := HQ16.out.bo.cell 5
   have r5 := HQ16.out.br.cell 5
   have y5 := HQ16.out.br.frozen 5
   have e6 := HQ16.out.bo.cell 6
   have r6 := HQ16.out.br.cell 6
   have y6 := HQ16.out.br.frozen 6
   have e7 := HQ16.out.bo.cell 7
   have r7 := HQ16.out.br.cell 7
   have y7 := HQ16.out.br.frozen 7
   have e8 := HQ16.out.bo.cell 8
   have r8 := HQ16.out.br.cell 8
   have y8 := HQ16.out.br.frozen 8
   have HX : Hid (Below w.heap.size w (((((((((w17.setCell ⟨w.heap.size + 3, 0, none⟩ (.bool (false))).setCell ⟨w.heap.size + 3, 1, none⟩ (.bool (false))).setCell ⟨w.heap.size + 3, 2, none⟩ (.bool (yS kd 1 du (lvE (zY ns.length ds s) ⟨nm, kd, a, b, xco⟩)))).setCell ⟨w.heap.size + 3, 3, none⟩ (.bool (yT ns ds s (zZ s i 1)))).setCell ⟨w.heap.size + 3, 4, none⟩ (.bool (zl ls i))).setCell ⟨w.heap.size + 3, 5, none⟩ (.bool (false))).setCell ⟨w.heap.size + 3, 6, none⟩ (.bool (xco != co))).setCell ⟨w.heap.size + 3, 7, none⟩ (.bool (false))).setCell ⟨w.heap.size + 3, 8, none⟩ (.bool (false)))) := (((((((((HQ16.out.bx.bl.setCell (p := ⟨w.heap.size + 3, 0, none⟩) (by simp) (.bool (false))).setCell (p := ⟨w.heap.size + 3, 1, none⟩) (by simp) (.bool (false))).setCell (p := ⟨w.heap.size + 3, 2, none⟩) (by simp) (.bool (yS kd 1 du (lvE (zY ns.length ds s) ⟨nm, kd, a, b, xco⟩)))).setCell (p := ⟨w.heap.size + 3, 3, none⟩) (by simp) (.bool (yT ns ds s (zZ s i 1)))).setCell (p := ⟨w.heap.size + 3, 4, none⟩) (by simp) (.bool (zl ls i))).setCell (p := ⟨w.heap.size + 3, 5, none⟩) (by simp) (.bool (false))).setCell (p := ⟨w.heap.size + 3, 6, none⟩) (by simp) (.bool (xco != co))).setCell (p := ⟨w.heap.size + 3, 7, none⟩) (by simp) (.bool (false))).setCell (p := ⟨w.heap.size + 3, 8, none⟩) (by simp) (.bool (false)))
   have HR : Hid (hzF ns.length ns ds s i 1 co ls pr ⟨nm, kd, a, b, xco⟩ = [false, false, yS kd 1 du (lvE (zY ns.length ds s) ⟨nm, kd, a, b, xco⟩), yT ns ds s (zZ s i 1), zl ls i, false, xco != co, false, false]) := by
    unfold Hid
    rw [HF.out s, if_neg HNF.out, HDE.out.symm, HQK.out]; rfl
   generalize (yS kd 1 du (lvE (zY ns.length ds s) ⟨nm, kd, a, b, xco⟩)) = v2 at *
   generalize (yT ns ds s (zZ s i 1)) = v3 at *
   generalize (zl ls i) = v4 at *
   generalize (xco != co) = v6 at *
   go_wp2_with fail
   exact bodyPost_ret (v := .agg #[.bool false, .bool false, .bool v2, .bool v3, .bool v4, .bool false, .bool v6, .bool false, .bool false]) (by simp [results, Tryz.results50, go_sem, r0, r1, r2, r3, r4, r5, r6, r7, r8]) rfl ⟨by rw [HR.out]; rfl, HX.out⟩
 ·have HV1 : Hid ((decide ((2 : Int) = 2) && decide (du = 4)) = (du == 4)) := rfl
  rw [HV1.out] at HQ9
  go_upto_region 10 with (fail)
  clear o0 o1 e1 y1 HQ8
  generalize World.setCell w8 _ _ = w9 at *
  have HM9 := iD (HH.out.below HQ9.out.bx.bl)
  have k0 := HQ9.out.bx.bn.c0
  have k1 := HQ9.out.bx.bn.c1
  have o0 := HQ9.out.bx.bo.c0
  have o1 := HQ9.out.bx.bo.c1
  go_wp2_with fail
  clear k0 k1 o0 o1 HM8
  refine (HBA.out w9 ⟨HM9.out.hn, HM9.out.hd, HM9.out.hs, Sl.nil _ _ _, Sl.nil _ _ _, HM9.out.la, HM9.out.sn, HM9.out.sd⟩ H0.out HX.out (by simp)).mono ?_
  rintro e w10 ⟨rfl, hb10⟩
  have HQ10 := iD (HQ9.out.later hb10)
  clear hb10 HQ9 HM9 HBA
  have e2 := HQ10.out.bo.cell 2
  have y2 := HQ10.out.bo.frozen 2
  have HQ11 : Hid (RhQ w #[.slice An ns.length cn, .slice Ad nd cd] #[.int .i64 i, .int .i64 2] #[.int .i64 co, .slice Al nl cl, .slice Ap np cp] #[.string nm, .int .i64 kd, .int .i64 a, .int .i64 b, .int .i64 xco] #[.bool false, .bool (du == 4), .bool (yS kd 2 du (lvE (zY ns.length ds s) ⟨nm, kd, a, b, xco⟩)), .bool false, .bool (zl ls i), .bool false, .bool (xco != co), .bool false, .bool false] _) := HQ10.out.set 2 (.bool (yS kd 2 du (lvE (zY ns.length ds s) ⟨nm, kd, a, b, xco⟩)))
  go_upto_region 11 with (fail)
  clear e2 y2 HQ10
  generalize World.setCell w10 _ _ = w11 at *
  have HQ12 := iD HQ11.out.drew
  have HM12 := iD (HH.out.below HQ12.out.bx.bl)
  clear HQ11
  refine zk (S := fun W' => ((W'.cell? ⟨w.heap.size, 0, none⟩ = some (.slice An ns.length cn) ∧ W'.cell? ⟨w.heap.size, 1, none⟩ = some (.slice Ad nd cd)) ∧ W'.cell? ⟨w.heap.size + 1, 0, none⟩ = some (.int .i64 i)) ∧ W'.cell? ⟨w.heap.size + 1, 1, none⟩ = some (.int .i64 2)) (J := []) (n := _) ((1, true) :: (2, true) :: (3, true) :: (5, true) :: (0, true) :: (4, true) :: (6, true) :: (7, false) :: (8, false) :: (9, true) :: (10, true) :: (11, true) :: (12, true) :: (13, true) :: (14, true) :: (15, true) :: []) (by as_aux_lemma => kernel_rfl) (by rfl) (zM (k := 1) (by go_simp; rfl) (zM (k := 6) (by go_simp; rfl) (zM (k := 4) (by go_simp; rfl) yg))) ?_ (fun _ _ _ _ _ h => h) (fun Q2 A hsz hbase hn2 AA => ?_)
  ·exact ⟨⟨⟨HQ12.out.bx.bn.cell 0, HQ12.out.bx.bn.cell 1⟩, HQ12.out.bx.bo.cell 0⟩, HQ12.out.bx.bo.cell 1⟩
  try dsimp only at AA
  obtain ⟨b1, b6, b4, -⟩ := hbase
  refine oM 1 66 ?_ rfl rfl rfl (zA rfl) AA (fun ρ AB => ?_) ?_
  rotate_left
  ·(have e1 := tm AB hsz 1 rfl (zJ b1); exact e1)
  refine oM 2 67 ?_ rfl rfl rfl (zA rfl) AA (fun ρ AB => ?_) ?_
  rotate_left
  ·(have e1 := tm AB hsz 1 rfl (zD rfl (zJ b1)); exact e1)
  refine oT 3 68 ?_ rfl rfl (zA rfl) AA (fun ρ AB w hSw => ?_) ?_
  rotate_left
  ·(have e6 := tm AB hsz 6 rfl (zD rfl (zD rfl (zJ b6))); clear AB; (try dsimp only at hSw); go_simp; try with_reducible rfl)
  refine oT 5 70 ?_ rfl rfl (zA rfl) AA (fun ρ AB w hSw => ?_) ?_
  rotate_left
  ·(have e6 := tm AB hsz 6 rfl (zD rfl (zD rfl (zD rfl (zJ b6)))); clear AB; (try dsimp only at hSw); go_simp; try with_reducible rfl)
  refine oT 0 65 ?_ rfl rfl (zA rfl) AA (fun ρ AB w hSw => ?_) ?_
  rotate_left
  ·(have e4 := tm AB hsz 4 rfl (zH rfl rfl rfl rfl (zJ b4)); clear AB; (try dsimp only at hSw); have k0 := hSw.1.1.1; have k1 := hSw.1.1.2; clear hSw; go_simp; try with_reducible rfl)
  refine oT 4 69 ?_ rfl rfl (zA rfl) AA (fun ρ AB w hSw => ?_) ?_
  rotate_left
  ·(have e68 := tm AB hsz 68 rfl (zD rfl (zD rfl zB)); clear AB; (try dsimp only at hSw); have o0 := hSw.1.2; clear hSw; go_simp; try with_reducible rfl)
  refine oT 6 71 ?_ rfl rfl (zA rfl) AA (fun ρ AB w hSw => ?_) ?_
  rotate_left
  ·(have e70 := tm AB hsz 70 rfl (zD rfl (zD rfl zB)); clear AB; (try dsimp only at hSw); have o1 := hSw.2; clear hSw; go_simp; try with_reducible rfl)
  refine yB (i := 7) (d := 72) (vs := ?_) rfl rfl rfl (zA rfl) (fun ρ AB => ?_) ?_ ?_
  rotate_left
  ·(have e67 := tm AB hsz 67 rfl (zH rfl rfl rfl rfl (zD rfl zB)); have e69 := tm AB hsz 69 rfl (zD rfl zB); have e71 := tm AB hsz 71 rfl zB; simp only [List.map_toArray, List.map_cons, List.map_nil, e67, e69, e71]; try with_reducible rfl)
  ·(intro w; go_simp)
  refine (vG As n c w11.drew.heap.size s i 2 w11.drew HM12.out.hs lR (by omega)).mono ?_
  rintro e w13 ⟨Aw, cw, rfl, hOw, hb13⟩
  rw [yq, HLS.out] at hOw ⊢
  have HQ13 := iD (HQ12.out.later hb13.out)
  have HM13 := iD (HM12.out.below hb13.out)
  have HSW : Hid (Sl w13 w13.heap.size 1 Aw n cw (zK (zZ s i 2))) := hOw.out.sl
  clear hOw hb13 HQ12 HM12
  refine ⟨_, rfl, fun _ => ?_, fun AA' => ?_⟩
  ·exact ⟨⟨⟨HQ13.out.bx.bn.cell 0, HQ13.out.bx.bn.cell 1⟩, HQ13.out.bx.bo.cell 0⟩, HQ13.out.bx.bo.cell 1⟩
  replace AA := AA' rfl
  clear AA'
  try dsimp only at AA
  refine yB (i := 8) (d := 73) (vs := ?_) rfl rfl rfl (zA rfl) (fun ρ AB => ?_) ?_ ?_
  rotate_left
  ·(have e65 := tm AB hsz 65 rfl (zD rfl (zD rfl (zD rfl zB))); have e66 := tm AB hsz 66 rfl (zH rfl rfl rfl rfl (zD rfl (zD rfl (zD rfl zB)))); have e72 := tm AB hsz 72 rfl zB; simp only [List.map_toArray, List.map_cons, List.map_nil, e65, e66, e72]; try with_reducible rfl)
  ·(intro w; go_simp)
  refine (rq An Ad As Aw ns.length cn nd cd n c n cw ns ds s (zZ s i 2) w13 HM13.out.hn HM13.out.hd HM13.out.hs HSW.out HM13.out.sn HM13.out.sd (by omega) H0.out (yI H0.out i (by simp)) (by omega) (by omega) ⟨HN.out.e, HN.out.ne⟩ ⟨HN.out.a, HN.out.k⟩).mono ?_
  rintro e w14 ⟨Ao, mo, coo, lo, ko, rfl, hlo1, hlo2, hlo3, hb14⟩
  have HQ14 := iD (HQ13.out.later hb14.out)
  have HM14 := iD (HM13.out.below hb14.out)
  have HLO := iD (tC hlo3.out hlo1.out)
  clear hlo1 hlo3 hb14 HQ13 HM13 HSW
  refine ⟨_, rfl, fun _ => ?_, fun AA' => ?_⟩
  ·exact ⟨⟨⟨HQ14.out.bx.bn.cell 0, HQ14.out.bx.bn.cell 1⟩, HQ14.out.bx.bo.cell 0⟩, HQ14.out.bx.bo.cell 1⟩
  replace AA := AA' rfl
  clear AA'
  try dsimp only at AA
  refine oM 9 64 ?_ rfl rfl rfl (zA rfl) AA (fun ρ AB => ?_) ?_
  rotate_left
  ·(have e73 := tm AB hsz 73 rfl zB; exact e73)
  refine oT 10 74 ?_ rfl rfl (zA rfl) AA (fun ρ AB w hSw => ?_) ?_
  rotate_left
  ·(have e64 := tm AB hsz 64 rfl zB; clear AB; (try dsimp only at hSw); go_simp; try with_reducible rfl)
  refine oT 11 75 ?_ rfl rfl (zA rfl) AA (fun ρ AB w hSw => ?_) ?_
  rotate_left
  ·(have e64 := tm AB hsz 64 rfl (zD rfl zB); clear AB; (try dsimp only at hSw); go_simp; try with_reducible rfl)
  refine oT 12 76 ?_ rfl rfl (zA rfl) AA (fun ρ AB w hSw => ?_) ?_
  rotate_left
  ·(have e64 := tm AB hsz 64 rfl (zD rfl (zD rfl zB)); clear AB; (try dsimp only at hSw); go_simp; try with_reducible rfl)
  refine oT 13 13 ?_ rfl rfl (zA rfl) AA (fun ρ AB w hSw => ?_) ?_
  rotate_left
  ·(have e74 := tm AB hsz 74 rfl (zD rfl (zD rfl zB)); clear AB; (try dsimp only at hSw); go_simp; try with_reducible rfl)
  refine oT 14 14 ?_ rfl rfl (zA rfl) AA (fun ρ AB w hSw => ?_) ?_
  rotate_left
  ·(have e75 := tm AB hsz 75 rfl (zD rfl (zD rfl zB)); clear AB; (try dsimp only at hSw); go_simp; try with_reducible rfl)
  refine oT 15 15 ?_ rfl rfl (zA rfl) AA (fun ρ AB w hSw => ?_) ?_
  rotate_left
  ·(have e76 := tm AB hsz 76 rfl (zD rfl (zD rfl zB)); clear AB; (try dsimp only at hSw); go_simp; try with_reducible rfl)
  refine ye hn2 ?_
  clear AA hn2 b1 b6 b4 hsz A Q2
  simp only [yd, yJ, xJ, vD, vE]
  have e3 := HQ14.out.bo.cell 3
  have y3 := HQ14.out.bo.frozen 3
  have HQ15 : Hid (RhQ w #[.slice An ns.length cn, .slice Ad nd cd] #[.int .i64 i, .int .i64 2] #[.int .i64 co, .slice Al nl cl, .slice Ap np cp] #[.string nm, .int .i64 kd, .int .i64 a, .int .i64 b, .int .i64 xco] #[.bool false, .bool (du == 4), .bool (yS kd 2 du (lvE (zY ns.length ds s) ⟨nm, kd, a, b, xco⟩)), .bool (yT ns ds s (zZ s i 2)), .bool (zl ls i), .bool false, .bool (xco != co), .bool false, .bool false] _) := HQ14.out.set 3 (.bool (yT ns ds s (zZ s i 2)))
  rw [← HLO.out] at HQ15
  go_upto_region 13 with (fail)
  clear e3 y3 HQ14 hlo2
  rw [HLO.out] at HQ15 ⊢
  clear HLO
  generalize World.setCell w14 _ _ = w15 at *
  rcases hk4 : (kd == 4) with _ | _
  ·have HQK : Hid (decide (kd = 4) = false) := hk4
   have o0 := HQ15.out.bx.bo.c0
   have o1 := HQ15.out.bx.bo.c1
   have g0 := HQ15.out.bx.bg.c0
   have g1 := HQ15.out.bx.bg.c1
   have g2 := HQ15.out.bx.bg.c2
   have d1 := HQ15.out.bd.cell 1
   have d2 := HQ15.out.bd.cell 2
   have d4 := HQ15.out.bd.cell 4
   have e5 := HQ15.out.bo.cell 5
   have y5 := HQ15.out.bo.frozen 5
   have HQ16 : Hid (RhQ w #[.slice An ns.length cn, .slice Ad nd cd] #[.int .i64 i, .int .i64 2] #[.int .i64 co, .slice Al nl cl, .slice Ap np cp] #[.string nm, .int .i64 kd, .int .i64 a, .int .i64 b, .int .i64 xco] #[.bool false, .bool (du == 4), .bool (yS kd 2 du (lvE (zY ns.length ds s) ⟨nm, kd, a, b, xco⟩)), .bool (yT ns ds s (zZ s i 2)), .bool (zl ls i), .bool false, .bool (xco != co), .bool false, .bool false] _) := HQ15.out.set 5 (.bool (false))
   go_upto_region 14 with (fail)
   clear e5 y5 o0 o1 g0 g1 g2 d1 d2 d4 HQ15 HM14
   generalize World.setCell w15 _ _ = w17 at *
   have e0 := HQ16.out.bo.cell 0
   have r0 := HQ16.out.br.cell 0
   have y0 := HQ16.out.br.frozen 0
   have e1 := HQ16.out.bo.cell 1
   have r1 := HQ16.out.br.cell 1
   have y1 := HQ16.out.br.frozen 1
   have e2 := HQ16.out.bo.cell 2
   have r2 := HQ16.out.br.cell 2
   have y2 := HQ16.out.br.frozen 2
   have e3 := HQ16.out.bo.cell 3
   have r3 := HQ16.out.br.cell 3
   have y3 := HQ16.out.br.frozen 3
   have e4 := HQ16.out.bo.cell 4
   have r4 := HQ16.out.br.cell 4
   have y4 := HQ16.out.br.frozen 4
   have e5 := HQ16.out.bo.cell 5
   have r5 := HQ16.out.br.cell 5
   have y5 := HQ16.out.br.frozen 5
   have e6 := HQ16.out.bo.cell 6
   have r6 := HQ16.out.br.cell 6
   have y6 := HQ16.out.br.frozen 6
   have e7 := HQ16.out.bo.cell 7
   have r7 := HQ16.out.br.cell 7
   have y7 := HQ16.out.br.frozen 7
   have e8 := HQ16.out.bo.cell 8
   have r8 := HQ16.out.br.cell 8
   have y8 := HQ16.out.br.frozen 8
   have HX : Hid (Below w.heap.size w (((((((((w17.setCell ⟨w.heap.size + 3, 0, none⟩ (.bool (false))).setCell ⟨w.heap.size + 3, 1, none⟩ (.bool (du == 4))).setCell ⟨w.heap.size + 3, 2, none⟩ (.bool (yS kd 2 du (lvE (zY ns.length ds s) ⟨nm, kd, a, b, xco⟩)))).setCell ⟨w.heap.size + 3, 3, none⟩ (.bool (yT ns ds s (zZ s i 2)))).setCell ⟨w.heap.size + 3, 4, none⟩ (.bool (zl ls i))).setCell ⟨w.heap.size + 3, 5, none⟩ (.bool (false))).setCell ⟨w.heap.size + 3, 6, none⟩ (.bool (xco != co))).setCell ⟨w.heap.size + 3, 7, none⟩ (.bool (false))).setCell ⟨w.heap.size + 3, 8, none⟩ (.bool (false)))) := (((((((((HQ16.out.bx.bl.setCell (p := ⟨w.heap.size + 3, 0, none⟩) (by simp) (.bool (false))).setCell (p := ⟨w.heap.size + 3, 1, none⟩) (by simp) (.bool (du == 4))).setCell (p := ⟨w.heap.size + 3, 2, none⟩) (by simp) (.bool (yS kd 2 du (lvE (zY ns.length ds s) ⟨nm, kd, a, b, xco⟩)))).setCell (p := ⟨w.heap.size + 3, 3, none⟩) (by simp) (.bool (yT ns ds s (zZ s i 2)))).setCell (p := ⟨w.heap.size + 3, 4, none⟩) (by simp) (.bool (zl ls i))).setCell (p := ⟨w.heap.size + 3, 5, none⟩) (by simp) (.bool (false))).setCell (p := ⟨w.heap.size + 3, 6, none⟩) (by simp) (.bool (xco != co))).setCell (p := ⟨w.heap.size + 3, 7, none⟩) (by simp) (.bool (false))).setCell (p := ⟨w.heap.size + 3, 8, none⟩) (by simp) (.bool (false)))
   have HR : Hid (hzF ns.length ns ds s i 2 co ls pr ⟨nm, kd, a, b, xco⟩ = [false, du == 4, yS kd 2 du (lvE (zY ns.length ds s) ⟨nm, kd, a, b, xco⟩), yT ns ds s (zZ s i 2), zl ls i, false, xco != co, false, false]) := by
    unfold Hid
    rw [HF.out s, if_neg HNF.out, HDE.out.symm, HQK.out]; rfl
   generalize (du == 4) = v1 at *
   generalize (yS kd 2 du (lvE (zY ns.length ds s) ⟨nm, kd, a, b, xco⟩)) = v2 at *
   generalize (yT ns ds s (zZ s i 2)) = v3 at *
   generalize (zl ls i) = v4 at *
   generalize (xco != co) = v6 at *
   go_wp2_with fail
   exact bodyPost_ret (v := .agg #[.bool false, .bool v1, .bool v2, .bool v3, .bool v4, .bool false, .bool v6, .bool false, .bool false]) (by simp [results, Tryz.results50, go_sem, r0, r1, r2, r3, r4, r5, r6, r7, r8]) rfl ⟨by rw [HR.out]; rfl, HX.out⟩
  ·have HQK : Hid (decide (kd = 4) = true) := hk4
   have o0 := HQ15.out.bx.bo.c0
   have o1 := HQ15.out.bx.bo.c1
   have g0 := HQ15.out.bx.bg.c0
   have g1 := HQ15.out.bx.bg.c1
   have g2 := HQ15.out.bx.bg.c2
   have d1 := HQ15.out.bd.cell 1
   have d2 := HQ15.out.bd.cell 2
   have d4 := HQ15.out.bd.cell 4
   have e5 := HQ15.out.bo.cell 5
   have y5 := HQ15.out.bo.frozen 5
   go_wp2_with fail
   clear o0 o1 g0 g1 g2 d1 d2 d4 e5 y5
   refine (vl Ap np cp pr a w15 (HH.out.below HQ15.out.bx.bl).hp).mono ?_
   rintro e w16 ⟨rfl, rfl⟩
   have e5 := HQ15.out.bo.cell 5
   have y5 := HQ15.out.bo.frozen 5
   have HQ16 : Hid (RhQ w #[.slice An ns.length cn, .slice Ad nd cd] #[.int .i64 i, .int .i64 2] #[.int .i64 co, .slice Al nl cl, .slice Ap np cp] #[.string nm, .int .i64 kd, .int .i64 a, .int .i64 b, .int .i64 xco] #[.bool false, .bool (du == 4), .bool (yS kd 2 du (lvE (zY ns.length ds s) ⟨nm, kd, a, b, xco⟩)), .bool (yT ns ds s (zZ s i 2)), .bool (zl ls i), .bool (!(decide ((a : Int) ∈ pr))), .bool (xco != co), .bool false, .bool false] _) := HQ15.out.set 5 (.bool (!(decide ((a : Int) ∈ pr))))
   go_upto_region 14 with (fail)
   clear e5 y5 HQ15 HM14
   generalize World.setCell w15 _ _ = w17 at *
   have e0 := HQ16.out.bo.cell 0
   have r0 := HQ16.out.br.cell 0
   have y0 := HQ16.out.br.frozen 0
   have e1 := HQ16.out.bo.cell 1
   have r1 := HQ16.out.br.cell 1
   have y1 := HQ16.out.br.frozen 1
   have e2 := HQ16.out.bo.cell 2
   have r2 := HQ16.out.br.cell 2
   have y2 := HQ16.out.br.frozen 2
   have e3 := HQ16.out.bo.cell 3
   have r3 := HQ16.out.br.cell 3
   have y3 := HQ16.out.br.frozen 3
   have e4 := HQ16.out.bo.cell 4
   have r4 := HQ16.out.br.cell 4
   have y4 := HQ16.out.br.frozen 4
   have e5 := HQ16.out.bo.cell 5
   have r5 := HQ16.out.br.cell 5
   have y5 := HQ16.out.br.frozen 5
   have e6 := HQ16.out.bo.cell 6
   have r6 := HQ16.out.br.cell 6
   have y6 := HQ16.out.br.frozen 6
   have e7 := HQ16.out.bo.cell 7
   have r7 := HQ16.out.br.cell 7
   have y7 := HQ16.out.br.frozen 7
   have e8 := HQ16.out.bo.cell 8
   have r8 := HQ16.out.br.cell 8
   have y8 := HQ16.out.br.frozen 8
   have HX : Hid (Below w.heap.size w (((((((((w17.setCell ⟨w.heap.size + 3, 0, none⟩ (.bool (false))).setCell ⟨w.heap.size + 3, 1, none⟩ (.bool (du == 4))).setCell ⟨w.heap.size + 3, 2, none⟩ (.bool (yS kd 2 du (lvE (zY ns.length ds s) ⟨nm, kd, a, b, xco⟩)))).setCell ⟨w.heap.size + 3, 3, none⟩ (.bool (yT ns ds s (zZ s i 2)))).setCell ⟨w.heap.size + 3, 4, none⟩ (.bool (zl ls i))).setCell ⟨w.heap.size + 3, 5, none⟩ (.bool (!(decide ((a : Int) ∈ pr))))).setCell ⟨w.heap.size + 3, 6, none⟩ (.bool (xco != co))).setCell ⟨w.heap.size + 3, 7, none⟩ (.bool (false))).setCell ⟨w.heap.size + 3, 8, none⟩ (.bool (false)))) := (((((((((HQ16.out.bx.bl.setCell (p := ⟨w.heap.size + 3, 0, none⟩) (by simp) (.bool (false))).setCell (p := ⟨w.heap.size + 3, 1, none⟩) (by simp) (.bool (du == 4))).setCell (p := ⟨w.heap.size + 3, 2, none⟩) (by simp) (.bool (yS kd 2 du (lvE (zY ns.length ds s) ⟨nm, kd, a, b, xco⟩)))).setCell (p := ⟨w.heap.size + 3, 3, none⟩) (by simp) (.bool (yT ns ds s (zZ s i 2)))).setCell (p := ⟨w.heap.size + 3, 4, none⟩) (by simp) (.bool (zl ls i))).setCell (p := ⟨w.heap.size + 3, 5, none⟩) (by simp) (.bool (!(decide ((a : Int) ∈ pr))))).setCell (p := ⟨w.heap.size + 3, 6, none⟩) (by simp) (.bool (xco != co))).setCell (p := ⟨w.heap.size + 3, 7, none⟩) (by simp) (.bool (false))).setCell (p := ⟨w.heap.size + 3, 8, none⟩) (by simp) (.bool (false)))
   have HR : Hid (hzF ns.length ns ds s i 2 co ls pr ⟨nm, kd, a, b, xco⟩ = [false, du == 4, yS kd 2 du (lvE (zY ns.length ds s) ⟨nm, kd, a, b, xco⟩), yT ns ds s (zZ s i 2), zl ls i, !(decide ((a : Int) ∈ pr)), xco != co, false, false]) := by
    unfold Hid
    rw [HF.out s, if_neg HNF.out, HDE.out.symm, HQK.out, kD]; rfl
   generalize (du == 4) = v1 at *
   generalize (yS kd 2 du (lvE (zY ns.length ds s) ⟨nm, kd, a, b, xco⟩)) = v2 at *
   generalize (yT ns ds s (zZ s i 2)) = v3 at *
   generalize (zl ls i) = v4 at *
   generalize (!(decide ((a : Int) ∈ pr))) = v5 at *
   generalize (xco != co) = v6 at *
   go_wp2_with fail
   exact bodyPost_ret (v := .agg #[.bool false, .bool v1, .bool v2, .bool v3, .bool v4, .bool v5, .bool v6, .bool false, .bool false]) (by simp [results, Tryz.results50, go_sem, r0, r1, r2, r3, r4, r5, r6, r7, r8]) rfl ⟨by rw [HR.out]; rfl, HX.out⟩
end
section
open Go.RowKit
end
end Go.Proofs.YtddddlhgaeameaaGreatDoor
