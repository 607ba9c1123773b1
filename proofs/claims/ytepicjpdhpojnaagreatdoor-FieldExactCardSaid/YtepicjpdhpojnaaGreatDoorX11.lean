import Derived.Test.YtepicjpdhpojnaaGreatDoorX10
set_option maxRecDepth 100000
set_option maxHeartbeats 4000000
namespace Go.Proofs.YtepicjpdhpojnaaGreatDoor
section
open Go.RowKit
def j9 (W : World) (mb nn : Nat) (ns : List Nd) (iv : Value) (wr : World) : Prop :=
 ∃ (i : Nat) (U : List (List UInt8)), iv = .int .i64 i ∧ i ≤ nn ∧ U.length ≤ i ∧ Hid (xA wr mb U) ∧ Hid (xm [] ns = xm U (ns.drop i) ∧ uK [] ns = uK U (ns.drop i)) ∧ Hid (Below W.heap.size W wr)
def j7 (W : World) (mb nn nd : Nat) (ns : List Nd) (ds : List Dv) (iv : Value) (wr : World) : Prop :=
 ∃ (i : Nat) (U : List (List UInt8)), iv = .int .i64 i ∧ i ≤ nd ∧ U.length ≤ i + nn ∧ Hid (xA wr mb U) ∧ Hid (zX ns ds = vo nn U (ds.drop i)) ∧ Hid (Below W.heap.size W wr)
theorem tS (An Ad : Option Addr) (nn cn nd cd Bn Bd : Nat) (ns : List Nd) (ds : List Dv) (w : World) (hl : Laid w) (hn : Sl w Bn 3 An nn cn (ns.flatMap Nd.cells)) (hd : Sl w Bd 5 Ad nd cd (ds.flatMap Dv.cells)) (hBn : Bn ≤ w.heap.size) (hBd : Bd ≤ w.heap.size)
 (hsn : ∀ x ∈ ns, x.name.size ≤ 9223372036854775807) (hsd : ∀ x ∈ ds, x.name.size ≤ 9223372036854775807) :
 Calls Tryz.prog 82 #[.agg #[.slice An nn cn, .slice Ad nd cd]] w fun e w' => e = .returned (.int .i64 (zX ns ds)) ∧ Below w.heap.size w w' := by
 have HLN := iD (hn.len (fun _ => rfl) (by decide)); have HLD := iD (hd.len (fun _ => rfl) (by decide))
 obtain ⟨hnc, hcm⟩ := hn.le
 obtain ⟨hdc, hdm⟩ := hd.le
 have HL := iD hl; have HN := iD hn; have HD := iD hd; have HSN := iD hsn; have HSD := iD hsd
 clear hl hn hd hsn hsd
 have HC : Hid (zX ns ds = if 32 < nn then 1 else if 64 < nd then 1 else if xm [] ns = 0 then vo nn (uK [] ns) ds else xm [] ns) := by unfold Hid; rw [zX, HLN.out, HLD.out]
 have hmm := @run_makeMap Tryz.prog
 by_cases h1 : 32 < nn
 ·have q1 : decide ((32 : Int) < (nn : Int)) = true := by simp; omega
  go_enter Tryz.func82, Tryz.ntmps82
  go_wp2_with fail
  go_ret
  exact ⟨zI (by rw [HC.out, if_pos h1]), (Below.refl _ _).alloc lR _⟩
 have q1 : decide ((32 : Int) < (nn : Int)) = false := by simp; omega
 by_cases h2 : 64 < nd
 ·have q2 : decide ((64 : Int) < (nd : Int)) = true := by simp; omega
  go_enter Tryz.func82, Tryz.ntmps82
  go_wp2_with fail
  go_ret
  exact ⟨zI (by rw [HC.out, if_neg h1, if_pos h2]), (Below.refl _ _).alloc lR _⟩
 have q2 : decide ((64 : Int) < (nd : Int)) = false := by simp; omega
 go_enter Tryz.func82, Tryz.ntmps82
 go_wp2_with fail
 clear q1 q2 hmm
 generalize hW : w.alloc (.cells #[.slice An nn cn, .slice Ad nd cd] 30) = W
 have HK : Hid (Blk W w.heap.size 30 #[.slice An nn cn, .slice Ad nd cd]) := hW ▸ Blk.new _ _ _
 have HB0 : Hid (Below w.heap.size w W) := hW ▸ (Below.refl _ _).alloc lR _
 have hWs : w.heap.size < W.heap.size := HK.out.lt
 have hWe : w.heap.size + 1 = W.heap.size := by rw [← hW]; simp
 clear hW
 rw [hWe]
 have hU0 := m4 W
 obtain ⟨mb, hmb⟩ : ∃ mb, W.heap.size = mb := ⟨_, rfl⟩
 have HBW : Hid (Below W.heap.size W (W.alloc (.map #[] 0))) := (Below.refl _ _).alloc lR _
 rw [hmb] at hU0 ⊢
 have HMB := iD hmb; clear hmb hWe
 go_loopw [22] (fun iv wr => j9 W mb nn ns iv wr) (fun iv _ => nn - (intOf iv).toNat)
 case atStart => exact ⟨0, [], rfl, Nat.zero_le _, Nat.le_refl _, hU0, ⟨rfl, rfl⟩, HBW⟩
 case round =>
  clear hU0 HBW
  obtain ⟨i, U, rfl, hi, hUl, hU, hch, hbl⟩ := hrel
  have hsz := hbl.out.size
  have k0 : wr.cell? ⟨w.heap.size, 0, none⟩ = some (.slice An nn cn) := (HK.out.below hbl.out hWs).cell 0
  have k1 : wr.cell? ⟨w.heap.size, 1, none⟩ = some (.slice Ad nd cd) := (HK.out.below hbl.out hWs).cell 1
  by_cases hlt : i < nn; rotate_left
  ·obtain rfl : i = nn := by omega
   have hjj : decide (i < i) = false := by simp
   have hd0 : ns.drop i = [] := List.drop_eq_nil_of_le (by rw [HLN.out]; omega)
   have hch' := hch.out
   rw [hd0] at hch'
   simp only [xm, uK] at hch'
   have HCC : Hid (zX ns ds = vo i U (ds.drop 0)) := by
    unfold Hid
    rw [HC.out, if_neg h1, if_neg h2, if_pos hch'.1, hch'.2, List.drop_zero]
   clear hch' hch hd0
   go_wp2_with fail
   go_loopw [58] (fun iv wr => j7 W mb i nd ns ds iv wr) (fun iv _ => nd - (intOf iv).toNat)
   case atStart => exact ⟨0, U, rfl, Nat.zero_le _, by omega, hU, HCC, hbl⟩
   case round =>
    clear hU HCC hbl k0 k1 hjj
    obtain ⟨j, U, rfl, hj, hUl, hU, hch, hbl⟩ := hrel
    have hsz := hbl.out.size
    have k0 : wr.cell? ⟨w.heap.size, 0, none⟩ = some (.slice An i cn) := (HK.out.below hbl.out hWs).cell 0
    by_cases hlj : j < nd; rotate_left
    ·obtain rfl : j = nd := by omega
     have hjj : decide (j < j) = false := by simp
     have hd0 : ds.drop j = [] := List.drop_eq_nil_of_le (by rw [HLD.out]; omega)
     have hch' := hch.out
     rw [hd0] at hch'
     simp only [vo] at hch'
     have HCH := iD hch'
     clear hch' hch hd0
     go_wp2_with fail
     go_ret
     exact ⟨zI (by rw [HCH.out]), HB0.out.trans (hbl.out.mono (Nat.le_of_lt hWs))⟩
    obtain ⟨b, off, x, rfl, hb, hx, hc⟩ := ((HD.out.below HB0.out hBd).below hbl.out (Nat.le_trans hBd (Nat.le_of_lt hWs))).at (fun _ => rfl) (by decide) hlj
    have HXS := iD (HSD.out x (List.mem_of_getElem? hx))
    have HX := iD hx
    obtain ⟨nm, kd, xa, xb, co⟩ := x
    have c0 : wr.cell? ⟨b, off + j * 5, none⟩ = some (.string nm) := hc 0 _ rfl
    have c1 : wr.cell? ⟨b, off + j * 5 + 1, none⟩ = some (.int .i64 kd) := hc 1 _ rfl
    have c2 : wr.cell? ⟨b, off + j * 5 + 2, none⟩ = some (.int .i64 xa) := hc 2 _ rfl
    have c3 : wr.cell? ⟨b, off + j * 5 + 3, none⟩ = some (.int .i64 xb) := hc 3 _ rfl
    have c4 : wr.cell? ⟨b, off + j * 5 + 4, none⟩ = some (.int .i64 co) := hc 4 _ rfl
    clear hc hx
    have hnm := HXS.out
    simp only at hnm
    have hstop : ∀ e : Int, xl i U ⟨nm, kd, xa, xb, co⟩ = e → e ≠ 0 → zX ns ds = e := fun e he hne => by
     rw [hch.out, pD HX.out (by rw [he]; exact hne), he]
    have HST := iD hstop; clear hstop
    have HEE : Hid (xl i U ⟨nm, kd, xa, xb, co⟩ = if xK (toL nm) = false then 3 else if toL nm ∈ U then 4 else if kd < 1 ∨ 6 < kd then 6 else if wP kd xa xb i = false then 7 else if ym co = false then 5 else 0) := rfl
    have HL1 := iD ((HL.out.below HB0.out lR).below hbl.out lR)
    go_wp2_with fail
    clear c0 c1 c2 c3 c4
    generalize hWX : wr.alloc (.cells #[.string nm, .int .i64 kd, .int .i64 xa, .int .i64 xb, .int .i64 co] 38) = WX
    have hbX : Below wr.heap.size wr WX := hWX ▸ (Below.refl _ _).alloc lR _
    have hkX : Blk WX wr.heap.size 38 #[.string nm, .int .i64 kd, .int .i64 xa, .int .i64 xb, .int .i64 co] := hWX ▸ Blk.new _ _ _
    clear hWX
    refine (oh nm WX (HL1.out.below hbX lR) hnm).mono ?_
    rintro e w1 ⟨rfl, hb1⟩
    have hb01 : Below wr.heap.size wr w1 := hbX.trans (hb1.mono hbX.size)
    have HK1 := iD (hkX.below hb1 hkX.lt)
    have HU1 := iD (hU.out.below hb01)
    have HB1 := iD (hbl.out.trans (hb01.mono hsz))
    have HBB := iD (HB0.out.trans (HB1.out.mono (Nat.le_of_lt hWs)))
    have x0 : w1.cell? ⟨wr.heap.size, 0, none⟩ = some (.string nm) := HK1.out.cell 0
    have x1 : w1.cell? ⟨wr.heap.size, 1, none⟩ = some (.int .i64 kd) := HK1.out.cell 1
    have x2 : w1.cell? ⟨wr.heap.size, 2, none⟩ = some (.int .i64 xa) := HK1.out.cell 2
    have x3 : w1.cell? ⟨wr.heap.size, 3, none⟩ = some (.int .i64 xb) := HK1.out.cell 3
    have x4 : w1.cell? ⟨wr.heap.size, 4, none⟩ = some (.int .i64 co) := HK1.out.cell 4
    have y0 : w1.cell? ⟨w.heap.size, 0, none⟩ = some (.slice An i cn) := (HK.out.below HB1.out hWs).cell 0
    clear hb1 hbX hkX hb01 k0
    rcases hnb : xK (toL nm) with _ | _
    ·have HR := iD (HST.out 3 (by rw [HEE.out, if_pos hnb]) (by decide))
     clear hnb
     go_wp2_with fail
     go_ret
     exact ⟨zI (by rw [HR.out]), HBB.out⟩
    have HNB := iD hnb; clear hnb
    have hlk := HU1.out.look nm hnm
    by_cases hmem : toL nm ∈ U
    ·have HR := iD (HST.out 4 (by rw [HEE.out, if_neg (by rw [HNB.out]; simp), if_pos hmem]) (by decide))
     rw [decide_eq_true hmem] at hlk
     clear hmem
     go_wp2_with fail
     go_ret
     exact ⟨zI (by rw [HR.out]), HBB.out⟩
    rw [decide_eq_false hmem] at hlk
    have HMM := iD hmem; clear hmem
    have h6 : kd < 1 ∨ 6 < kd → zX ns ds = 6 := fun h => HST.out 6 (by rw [HEE.out, if_neg (by rw [HNB.out]; simp), if_neg HMM.out, if_pos h]) (by decide)
    have H6 := iD h6; clear h6
    by_cases g1 : kd < 1
    ·have HR := iD (H6.out (.inl g1))
     go_wp2_with fail
     go_ret
     exact ⟨zI (by rw [HR.out]), HBB.out⟩
    have g1' : decide (kd < 1) = false := by simpa using g1
    by_cases g2 : 6 < kd
    ·have HR := iD (H6.out (.inr g2))
     go_wp2_with fail
     go_ret
     exact ⟨zI (by rw [HR.out]), HBB.out⟩
    have g2' : decide (6 < kd) = false := by simpa using g2
    have HEN := iD (kj nm kd xa xb co i)
    rcases hen : wP kd xa xb i with _ | _
    ·have HR := iD (HST.out 7 (by rw [HEE.out, if_neg (by rw [HNB.out]; simp), if_neg HMM.out, if_neg (by omega), if_pos hen]) (by decide))
     rw [hen] at HEN
     clear hen
     go_wp2_with fail
     refine (HEN.out _).mono ?_
     rintro e w2 ⟨rfl, hb2⟩
     go_wp2_with fail
     go_ret
     exact ⟨zI (by rw [HR.out]), HBB.out.trans (hb2.mono HBB.out.size)⟩
    rw [hen] at HEN
    have HNE := iD hen; clear hen
    go_wp2_with fail
    clear x0 x1 x2 x3 x4 y0 hlk
    refine (HEN.out _).mono ?_
    rintro e w2 ⟨rfl, hb2⟩
    have HK2 := iD (HK1.out.below hb2 HK1.out.lt)
    have HU2 := iD (HU1.out.below hb2)
    have HB2 := iD (HB1.out.trans (hb2.mono HB1.out.size))
    have HBB2 := iD (HBB.out.trans (hb2.mono HBB.out.size))
    have x0 : w2.cell? ⟨wr.heap.size, 0, none⟩ = some (.string nm) := HK2.out.cell 0
    have x4 : w2.cell? ⟨wr.heap.size, 4, none⟩ = some (.int .i64 co) := HK2.out.cell 4
    clear hb2
    have HCO := iD (sq co)
    rcases hco : ym co with _ | _
    ·have HR := iD (HST.out 5 (by rw [HEE.out, if_neg (by rw [HNB.out]; simp), if_neg HMM.out, if_neg (by omega), if_neg (by rw [HNE.out]; simp), if_pos hco]) (by decide))
     rw [hco] at HCO
     clear hco
     go_wp2_with fail
     refine (HCO.out _).mono ?_
     rintro e w3 ⟨rfl, rfl⟩
     go_wp2_with fail
     go_ret
     exact ⟨zI (by rw [HR.out]), HBB2.out⟩
    have HOK : Hid (xl i U ⟨nm, kd, xa, xb, co⟩ = 0) := by unfold Hid; rw [HEE.out, if_neg (by rw [HNB.out]; simp), if_neg HMM.out, if_neg (by omega), if_neg (by rw [HNE.out]; simp), if_neg (by rw [hco]; simp)]
    rw [hco] at HCO
    clear hco
    obtain ⟨w4, hput, hU4, hg4⟩ := HU2.out.put (by omega) nm hnm
    have HU4 := iD hU4; have HG4 := iD hg4
    clear hU4 hg4
    go_wp2_with fail
    refine (HCO.out _).mono ?_
    rintro e w3 ⟨rfl, rfl⟩
    go_wp2_with fail
    go_roundw
    case rel =>
     refine ⟨j + 1, toL nm :: U, by go_num, by omega, by simp; omega, HU4, hch.out.trans (u6 HX.out HOK.out), HB2.out.trans (yL HG4.out (by rw [HMB.out]; exact Nat.le_refl _) HB2.out.size)⟩
    case measure => simp [intOf]; omega
  obtain ⟨b, off, x, rfl, hb, hx, hc⟩ := ((HN.out.below HB0.out hBn).below hbl.out (Nat.le_trans hBn (Nat.le_of_lt hWs))).at (fun _ => rfl) (by decide) hlt
  have HXS := iD (HSN.out x (List.mem_of_getElem? hx))
  have HX := iD hx
  obtain ⟨nm, cu, co⟩ := x
  have c0 : wr.cell? ⟨b, off + i * 3, none⟩ = some (.string nm) := hc 0 _ rfl
  have c1 : wr.cell? ⟨b, off + i * 3 + 1, none⟩ = some (.int .i64 cu) := hc 1 _ rfl
  have c2 : wr.cell? ⟨b, off + i * 3 + 2, none⟩ = some (.int .i64 co) := hc 2 _ rfl
  clear hc hx
  have hnm := HXS.out
  simp only at hnm
  have hstop : ∀ e : Int, vA U ⟨nm, cu, co⟩ = e → e ≠ 0 → zX ns ds = e := fun e he hne => by
   have hs := pC HX.out (by rw [he]; exact hne)
   have hcc := hch.out.1
   rw [hs, he] at hcc
   rw [HC.out, if_neg h1, if_neg h2, if_neg (by rw [hcc]; exact hne), hcc]
  have HST := iD hstop; clear hstop
  have HEE : Hid (vA U ⟨nm, cu, co⟩ = if xK (toL nm) = false then 3 else if toL nm ∈ U then 4 else if cu < 0 ∨ 1048576 < cu then 5 else if ym co = false then 5 else 0) := rfl
  have HL1 := iD ((HL.out.below HB0.out lR).below hbl.out lR)
  go_wp2_with fail
  clear c0 c1 c2
  generalize hWX : wr.alloc (.cells #[.string nm, .int .i64 cu, .int .i64 co] 74) = WX
  have hbX : Below wr.heap.size wr WX := hWX ▸ (Below.refl _ _).alloc lR _
  have hkX : Blk WX wr.heap.size 74 #[.string nm, .int .i64 cu, .int .i64 co] := hWX ▸ Blk.new _ _ _
  clear hWX
  refine (oh nm WX (HL1.out.below hbX lR) hnm).mono ?_
  rintro e w1 ⟨rfl, hb1⟩
  have hb01 : Below wr.heap.size wr w1 := hbX.trans (hb1.mono hbX.size)
  have HK1 := iD (hkX.below hb1 hkX.lt)
  have HU1 := iD (hU.out.below hb01)
  have HB1 := iD (hbl.out.trans (hb01.mono hsz))
  have HBB := iD (HB0.out.trans (HB1.out.mono (Nat.le_of_lt hWs)))
  have x0 : w1.cell? ⟨wr.heap.size, 0, none⟩ = some (.string nm) := HK1.out.cell 0
  have x1 : w1.cell? ⟨wr.heap.size, 1, none⟩ = some (.int .i64 cu) := HK1.out.cell 1
  have x2 : w1.cell? ⟨wr.heap.size, 2, none⟩ = some (.int .i64 co) := HK1.out.cell 2
  clear hb1 hbX hkX hb01
  rcases hnb : xK (toL nm) with _ | _
  ·have HR := iD (HST.out 3 (by rw [HEE.out, if_pos hnb]) (by decide))
   clear hnb
   go_wp2_with fail
   go_ret
   exact ⟨zI (by rw [HR.out]), HBB.out⟩
  have HNB := iD hnb; clear hnb
  have hlk := HU1.out.look nm hnm
  by_cases hmem : toL nm ∈ U
  ·have HR := iD (HST.out 4 (by rw [HEE.out, if_neg (by rw [HNB.out]; simp), if_pos hmem]) (by decide))
   rw [decide_eq_true hmem] at hlk
   clear hmem
   go_wp2_with fail
   go_ret
   exact ⟨zI (by rw [HR.out]), HBB.out⟩
  rw [decide_eq_false hmem] at hlk
  have HMM := iD hmem; clear hmem
  have h5 : cu < 0 ∨ 1048576 < cu ∨ ym co = false → zX ns ds = 5 := fun h => HST.out 5 (by
   rw [HEE.out, if_neg (by rw [HNB.out]; simp), if_neg HMM.out]
   by_cases hh : cu < 0 ∨ 1048576 < cu
   ·rw [if_pos hh]
   ·rw [if_neg hh, if_pos (h.elim (fun h => absurd (.inl h) hh) (fun h => h.elim (fun h => absurd (.inr h) hh) id))]) (by decide)
  have H5 := iD h5; clear h5
  by_cases g1 : cu < 0
  ·have HR := iD (H5.out (.inl g1))
   go_wp2_with fail
   go_ret
   exact ⟨zI (by rw [HR.out]), HBB.out⟩
  have g1' : decide (cu < 0) = false := by simpa using g1
  by_cases g2 : 1048576 < cu
  ·have HR := iD (H5.out (.inr (.inl g2)))
   go_wp2_with fail
   go_ret
   exact ⟨zI (by rw [HR.out]), HBB.out⟩
  have g2' : decide (1048576 < cu) = false := by simpa using g2
  have HCO := iD (sq co)
  rcases hco : ym co with _ | _
  ·have HR := iD (H5.out (.inr (.inr hco)))
   rw [hco] at HCO
   clear hco
   go_wp2_with fail
   refine (HCO.out _).mono ?_
   rintro e w2 ⟨rfl, rfl⟩
   go_wp2_with fail
   go_ret
   exact ⟨zI (by rw [HR.out]), HBB.out⟩
  have HOK : Hid (vA U ⟨nm, cu, co⟩ = 0) := by unfold Hid; rw [HEE.out, if_neg (by rw [HNB.out]; simp), if_neg HMM.out, if_neg (by omega), if_neg (by rw [hco]; simp)]
  rw [hco] at HCO
  clear hco
  obtain ⟨w2, hput, hU2, hg2⟩ := HU1.out.put (by omega) nm hnm
  have HU2 := iD hU2; have HG2 := iD hg2
  clear hU2 hg2
  go_wp2_with fail
  refine (HCO.out _).mono ?_
  rintro e w3 ⟨rfl, rfl⟩
  go_wp2_with fail
  go_roundw
  case rel =>
   have hst := sY HX.out HOK.out
   refine ⟨i + 1, toL nm :: U, by go_num, by omega, by simp; omega, HU2, ⟨hch.out.1.trans hst.1, hch.out.2.trans hst.2⟩, HB1.out.trans (yL HG2.out (by rw [HMB.out]; exact Nat.le_refl _) HB1.out.size)⟩
  case measure => simp [intOf]; omega
end
section
open Go.RowKit
theorem pX (p : Int) (w : World) (hl : Laid w) : Calls Tryz.prog 99 #[.int .i64 p] w fun e w' => e = .returned (.bool (yv p)) ∧ w = w' := by
 have c1 := hl.2 1 _ rfl
 have c3 := hl.2 3 _ rfl
 have c5 := hl.2 5 _ rfl
 have c7 := hl.2 7 _ rfl
 clear hl
 by_cases h0 : 0 ≤ p; rotate_left
 ·have h0' : decide (0 ≤ p) = false := by simpa using h0
  have HP : Hid (yv p = false) := by unfold Hid; simp [yv]; omega
  go_enter Tryz.func99, Tryz.ntmps99
  go_wp2_with fail
  go_ret
  exact ⟨zP (by rw [HP.out]), rfl⟩
 by_cases h4 : p < 4; rotate_left
 ·have h4' : decide (p < 4) = false := by simpa using h4
  have HP : Hid (yv p = false) := by unfold Hid; simp [yv]; omega
  go_enter Tryz.func99, Tryz.ntmps99
  go_wp2_with fail
  go_ret
  exact ⟨zP (by rw [HP.out]), rfl⟩
 rcases (show p = 0 ∨ p = 1 ∨ p = 2 ∨ p = 3 by omega) with rfl | rfl | rfl | rfl
 all_goals
  go_enter Tryz.func99, Tryz.ntmps99
  go_wp2_with fail
  go_ret
  exact ⟨zP (by decide), rfl⟩
end
section
open Go.RowKit
def zV (ns : List Nd) (ds : List Dv) (s : List Int) : Int := if zX ns ds ≠ 0 then zX ns ds else if s.length ≠ ds.length then 9 else if ∀ p ∈ s, yv p = true then 0 else 10
theorem mE (An Ad As : Option Addr) (nn cn nd cd n c Bn Bd Bs : Nat) (ns : List Nd) (ds : List Dv) (s : List Int) (w : World) (hl : Laid w) (hn : Sl w Bn 3 An nn cn (ns.flatMap Nd.cells)) (hd : Sl w Bd 5 Ad nd cd (ds.flatMap Dv.cells)) (hs : Sl w Bs 1 As n c (zK s)) (hBn : Bn ≤ w.heap.size) (hBd : Bd ≤ w.heap.size) (hBs : Bs ≤ w.heap.size)
 (hsn : ∀ x ∈ ns, x.name.size ≤ 9223372036854775807) (hsd : ∀ x ∈ ds, x.name.size ≤ 9223372036854775807) :
 Calls Tryz.prog 98 #[.agg #[.slice An nn cn, .slice Ad nd cd], .slice As n c, .func (.func 99) #[] #[]] w fun e w' => e = .returned (.int .i64 (zV ns ds s)) ∧ Below w.heap.size w w' := by
 have HLS := iD (hs.len (fun _ => rfl) (by decide)); have HLD := iD (hd.len (fun _ => rfl) (by decide))
 obtain ⟨hnc, hcm⟩ := hs.le
 obtain ⟨hdc, hdm⟩ := hd.le
 have HE : Hid (zV ns ds s = if zX ns ds ≠ 0 then zX ns ds else if n ≠ nd then 9 else if ∀ p ∈ s, yv p = true then 0 else 10) := by unfold Hid; rw [zV, HLS.out, HLD.out]
 have HL := iD hl; have HN := iD hn; have HD := iD hd; have HS := iD hs
 have HCK := iD (tS An Ad nn cn nd cd Bn Bd ns ds (w.alloc (.cells #[.slice An nn cn, .slice Ad nd cd] 30)) (hl.alloc _) (hn.alloc hBn _) (hd.alloc hBd _) (by simp; omega) (by simp; omega) hsn hsd)
 clear hl hn hd hs hsn hsd
 generalize zX ns ds = er at *
 have HBW : Hid (Below w.heap.size w (w.alloc (.cells #[.slice An nn cn, .slice Ad nd cd] 30))) := (Below.refl _ _).alloc lR _
 by_cases h0 : er = 0; rotate_left
 ·have h0' : (er != 0) = true := by simpa using h0
  have HR : Hid (zV ns ds s = er) := by unfold Hid; rw [HE.out, if_pos h0]
  clear h0
  go_enter Tryz.func98, Tryz.ntmps98
  go_wp2_with fail
  refine HCK.out.mono ?_
  rintro e w1 ⟨rfl, hb1⟩
  go_wp2_with fail
  go_ret
  exact ⟨zI (by rw [HR.out]), HBW.out.trans (hb1.mono (by simp))⟩
 subst h0
 go_enter Tryz.func98, Tryz.ntmps98
 go_wp2_with fail
 refine HCK.out.mono ?_
 rintro e w1 ⟨rfl, hb1⟩
 have HK1 := iD ((Blk.new w 30 #[.slice An nn cn, .slice Ad nd cd]).below hb1 (by simp))
 have HB1 := iD (HBW.out.trans (hb1.mono (by simp)))
 have k1 : w1.cell? ⟨w.heap.size, 1, none⟩ = some (.slice Ad nd cd) := HK1.out.cell 1
 have hz1 := HB1.out.size
 clear hb1 HCK
 by_cases hnd : n = nd; rotate_left
 ·have q : decide (n = nd) = false := by simpa using hnd
  have q' : ((n : Int) != (nd : Int)) = true := by simp; omega
  have HR : Hid (zV ns ds s = 9) := by unfold Hid; rw [HE.out, if_neg (by simp), if_pos hnd]
  clear hnd
  go_wp2_with fail
  go_ret
  exact ⟨zI (by rw [HR.out]), HB1.out⟩
 subst hnd
 have HL1 := iD (HL.out.below HB1.out lR)
 have HS1 := iD (HS.out.below HB1.out hBs)
 go_wp2_with fail
 clear k1
 go_loop [9, 23] (fun _ iv => ∃ i : Nat, iv = .int .i64 i ∧ i ≤ n ∧ Hid (∀ p ∈ s.take i, yv p = true)) (fun _ iv => n - (intOf iv).toNat)
 case atStart => exact ⟨0, rfl, Nat.zero_le _, by simp [Hid]⟩
 case round =>
  obtain ⟨i, rfl, hi, hok⟩ := hrel
  by_cases hlt : i < n
  ·obtain ⟨b, off, x, rfl, hb, hx, hc⟩ := HS1.out.at1 hlt
   have HX := iD hx; clear hx
   have HPA := iD (pX x w1 HL1.out)
   rcases hp : yv x with _ | _
   ·have HR : Hid (zV ns ds s = 10) := by
     unfold Hid
     rw [HE.out, if_neg (by simp), if_neg (by simp), if_neg (fun h => by have := h x (List.mem_of_getElem? HX.out); rw [hp] at this; cases this)]
    rw [hp] at HPA
    clear hp
    go_wp2_with fail
    refine HPA.out.mono ?_
    rintro e w2 ⟨rfl, rfl⟩
    go_wp2_with fail
    go_ret
    exact ⟨zI (by rw [HR.out]), HB1.out⟩
   ·rw [hp] at HPA
    have HP := iD hp; clear hp
    go_wp2_with fail
    refine HPA.out.mono ?_
    rintro e w2 ⟨rfl, rfl⟩
    go_wp2_with fail
    go_round
    case rel =>
     refine ⟨i + 1, by go_num, by omega, fun p hp => ?_⟩
     rw [zt HX.out] at hp
     rcases List.mem_append.1 hp with h | h
     ·exact hok.out p h
     ·rw [List.mem_singleton.1 h]; exact HP.out
    case measure => simp [intOf]; omega
  ·obtain rfl : i = n := by omega
   have hjj : decide (i < i) = false := by simp
   have HR : Hid (zV ns ds s = 0) := by
    unfold Hid
    have := hok.out
    rw [List.take_of_length_le (by rw [HLS.out]; exact Nat.le_refl _)] at this
    rw [HE.out, if_neg (by simp), if_neg (by simp), if_pos this]
   go_wp2_with fail
   go_ret
   exact ⟨zI (by rw [HR.out]), HB1.out⟩
theorem ro (An Ad As : Option Addr) (nn cn nd cd n c Bn Bd Bs : Nat) (ns : List Nd) (ds : List Dv) (s : List Int) (w : World) (hl : Laid w) (hn : Sl w Bn 3 An nn cn (ns.flatMap Nd.cells)) (hd : Sl w Bd 5 Ad nd cd (ds.flatMap Dv.cells)) (hs : Sl w Bs 1 As n c (zK s)) (hBn : Bn ≤ w.heap.size) (hBd : Bd ≤ w.heap.size) (hBs : Bs ≤ w.heap.size)
 (hsn : ∀ x ∈ ns, x.name.size ≤ 9223372036854775807) (hsd : ∀ x ∈ ds, x.name.size ≤ 9223372036854775807) :
 Calls Tryz.prog 62 #[.agg #[.slice An nn cn, .slice Ad nd cd], .slice As n c] w fun e w' => e = .returned (.int .i64 (zV ns ds s)) ∧ Below w.heap.size w w' := by
 have HC := iD (mE An Ad As nn cn nd cd n c Bn Bd Bs ns ds s (w.alloc (.cells #[.slice An nn cn, .slice Ad nd cd] 30)) (hl.alloc _) (hn.alloc hBn _) (hd.alloc hBd _) (hs.alloc hBs _) (by simp; omega) (by simp; omega) (by simp; omega) hsn hsd)
 clear hl hn hd hs hsn hsd
 go_enter Tryz.func62, Tryz.ntmps62
 go_wp2_with fail
 refine HC.out.mono ?_
 rintro e w1 ⟨rfl, hb1⟩
 go_wp2_with fail
 go_ret
 exact ⟨rfl, ((Below.refl _ _).alloc lR _).trans (hb1.mono (by simp))⟩
end
section
open Go.RowKit
def vW (ns : List Nd) (ds : List Dv) (s : List Int) (m : Int) : Int := if zX ns ds ≠ 0 then zX ns ds else if s.length ≠ ds.length then 9 else if ∀ p ∈ s, 1 ≤ p ∧ p ≤ m then 0 else 10
theorem mA (ns : List Nd) (ds : List Dv) (s : List Int) : vW ns ds s 2 = zV ns ds s := by
 unfold vW zV
 have e : (∀ p ∈ s, 1 ≤ p ∧ p ≤ 2) ↔ (∀ p ∈ s, yv p = true) := by
  constructor <;> intro h p hp <;> have := h p hp <;> simp [yv] at * <;> omega
 split
 ·rfl
 ·split
  ·rfl
  ·by_cases h : ∀ p ∈ s, yv p = true
   ·rw [if_pos h, if_pos (e.2 h)]
   ·rw [if_neg h, if_neg (fun k => h (e.1 k))]
def RpR (w : World) (N : Array Value) (n : Nat) (s : List Int) (m : Int) (gk : Nat) (iv : Value) (wr : World) : Prop := ∃ i : Nat, iv = .int .i64 i ∧ i ≤ n ∧ gk = n - i ∧ Hid (ui w N wr) ∧ Hid (∀ p ∈ s.take i, 1 ≤ p ∧ p ≤ m)
theorem lx (An Ad As : Option Addr) (nn cn nd cd n c Bn Bd Bs : Nat) (ns : List Nd) (ds : List Dv) (s : List Int) (m : Int) (w : World) (hn : Sl w Bn 3 An nn cn (ns.flatMap Nd.cells)) (hd : Sl w Bd 5 Ad nd cd (ds.flatMap Dv.cells)) (hs : Sl w Bs 1 As n c (zK s)) (hBn : Bn ≤ w.heap.size) (hBd : Bd ≤ w.heap.size) (hBs : Bs ≤ w.heap.size)
 (hsn : ∀ x ∈ ns, x.name.size ≤ 9223372036854775807) (hsd : ∀ x ∈ ds, x.name.size ≤ 9223372036854775807) :
 Calls Tryz.prog 100 #[.agg #[.slice An nn cn, .slice Ad nd cd], .slice As n c, .int .i64 m] w fun e w' => e = .returned (.int .i64 (vW ns ds s m)) ∧ Below w.heap.size w w' := by
 have HLS := iD (hs.len (fun _ => rfl) (by decide)); have HLD := iD (hd.len (fun _ => rfl) (by decide))
 obtain ⟨hnc, hcm⟩ := hs.le
 obtain ⟨hdc, hdm⟩ := hd.le
 have HE : Hid (vW ns ds s m = if zX ns ds ≠ 0 then zX ns ds else if n ≠ nd then 9 else if ∀ p ∈ s, 1 ≤ p ∧ p ≤ m then 0 else 10) := by unfold Hid; rw [vW, HLS.out, HLD.out]
 have HS := iD hs
 have HCK := iD (tO An Ad nn cn nd cd Bn Bd ns ds (w.alloc (.cells #[.slice An nn cn, .slice Ad nd cd] 30)) (hn.alloc hBn _) (hd.alloc hBd _) (by simp; omega) (by simp; omega) hsn hsd)
 clear hn hd hs hsn hsd
 generalize zX ns ds = er at *
 have HR0 : Hid (ui w #[.slice An nn cn, .slice Ad nd cd] (w.alloc (.cells #[.slice An nn cn, .slice Ad nd cd] 30))) := ⟨Blk.new _ _ _, (Below.refl _ _).alloc lR _⟩
 by_cases h0 : er = 0; rotate_left
 ·have h0' : (er != 0) = true := by simpa using h0
  have HR : Hid (vW ns ds s m = er) := by unfold Hid; rw [HE.out, if_pos h0]
  clear h0
  go_enter Tryz.func100, Tryz.ntmps100
  go_wp2_with fail
  refine HCK.out.mono ?_
  rintro e w1 ⟨rfl, hb1⟩
  have HR1 := iD (HR0.out.later hb1)
  go_wp2_with fail
  go_ret
  exact ⟨zI (by rw [HR.out]), HR1.out.bl⟩
 subst h0
 go_enter Tryz.func100, Tryz.ntmps100
 go_wp2_with fail
 refine HCK.out.mono ?_
 rintro e w1 ⟨rfl, hb1⟩
 have HR1 := iD (HR0.out.later hb1)
 clear hb1 HCK HR0
 have k1 : w1.cell? ⟨w.heap.size, 1, none⟩ = some (.slice Ad nd cd) := HR1.out.bx.cell 1
 by_cases hnd : n = nd; rotate_left
 ·have q : decide (n = nd) = false := by simpa using hnd
  have q' : ((n : Int) != (nd : Int)) = true := by simp; omega
  have HR : Hid (vW ns ds s m = 9) := by unfold Hid; rw [HE.out, if_neg (by simp), if_pos hnd]
  clear hnd
  go_wp2_with fail
  go_ret
  exact ⟨zI (by rw [HR.out]), HR1.out.bl⟩
 subst hnd
 go_wp2_with fail
 clear k1
 go_loopg [8] n (RpR w #[.slice An nn cn, .slice Ad n cd] n s m)
 case atStart => exact ⟨0, rfl, Nat.zero_le _, rfl, HR1, by simp [Hid]⟩
 case round =>
  clear HR1
  obtain ⟨i, rfl, hi, rfl, hst, hok⟩ := hrel
  by_cases hlt : i < n
  ·obtain ⟨b, off, x, rfl, hb, hx, hc⟩ := (HS.out.below hst.out.bl hBs).at1 hlt
   have HX := iD hx; clear hx
   by_cases h1 : x < 1
   ·have HR : Hid (vW ns ds s m = 10) := by
     unfold Hid
     rw [HE.out, if_neg (by simp), if_neg (by simp), if_neg (fun h => by have := h x (List.mem_of_getElem? HX.out); omega)]
    go_wp2_with fail
    go_ret
    exact ⟨zI (by rw [HR.out]), hst.out.bl⟩
   ·have q1 : decide (x < 1) = false := by simpa using h1
    by_cases h2 : m < x
    ·have HR : Hid (vW ns ds s m = 10) := by
      unfold Hid
      rw [HE.out, if_neg (by simp), if_neg (by simp), if_neg (fun h => by have := h x (List.mem_of_getElem? HX.out); omega)]
     go_wp2_with fail
     go_ret
     exact ⟨zI (by rw [HR.out]), hst.out.bl⟩
    ·have q2 : decide (m < x) = false := by simpa using h2
     go_wp2_with fail
     go_roundg (n - (i + 1))
     case rel =>
      refine ⟨i + 1, by go_num, by omega, rfl, hst, fun p hp => ?_⟩
      rw [zt HX.out] at hp
      rcases List.mem_append.1 hp with h | h
      ·exact hok.out p h
      ·rw [List.mem_singleton.1 h]; omega
     case measure => omega
  ·obtain rfl : i = n := by omega
   have hjj : decide (i < i) = false := by simp
   have HR : Hid (vW ns ds s m = 0) := by
    unfold Hid
    have := hok.out
    rw [List.take_of_length_le (by rw [HLS.out]; exact Nat.le_refl _)] at this
    rw [HE.out, if_neg (by simp), if_neg (by simp), if_pos this]
   go_wp2_with fail
   go_ret
   exact ⟨zI (by rw [HR.out]), hst.out.bl⟩
theorem rW (An Ad As : Option Addr) (nn cn nd cd n c Bn Bd Bs : Nat) (ns : List Nd) (ds : List Dv) (s : List Int) (w : World) (hn : Sl w Bn 3 An nn cn (ns.flatMap Nd.cells)) (hd : Sl w Bd 5 Ad nd cd (ds.flatMap Dv.cells)) (hs : Sl w Bs 1 As n c (zK s)) (hBn : Bn ≤ w.heap.size) (hBd : Bd ≤ w.heap.size) (hBs : Bs ≤ w.heap.size)
 (hsn : ∀ x ∈ ns, x.name.size ≤ 9223372036854775807) (hsd : ∀ x ∈ ds, x.name.size ≤ 9223372036854775807) :
 Calls Tryz.prog 63 #[.agg #[.slice An nn cn, .slice Ad nd cd], .slice As n c] w fun e w' => e = .returned (.int .i64 (zV ns ds s)) ∧ Below w.heap.size w w' := by
 have HC := iD (lx An Ad As nn cn nd cd n c Bn Bd Bs ns ds s 2 (w.alloc (.cells #[.slice An nn cn, .slice Ad nd cd] 30)) (hn.alloc hBn _) (hd.alloc hBd _) (hs.alloc hBs _) (by simp; omega) (by simp; omega) (by simp; omega) hsn hsd)
 rw [mA] at HC
 clear hn hd hs hsn hsd
 go_enter Tryz.func63, Tryz.ntmps63
 go_wp2_with fail
 refine HC.out.mono ?_
 rintro e w1 ⟨rfl, hb1⟩
 go_wp2_with fail
 go_ret
 exact ⟨rfl, ((Below.refl _ _).alloc lR _).trans (hb1.mono (by simp))⟩
end
end Go.Proofs.YtepicjpdhpojnaaGreatDoor
