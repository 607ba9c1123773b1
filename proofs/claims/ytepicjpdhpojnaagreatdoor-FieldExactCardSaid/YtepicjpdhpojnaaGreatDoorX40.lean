import Derived.Test.YtepicjpdhpojnaaGreatDoorX39
set_option maxRecDepth 100000
set_option maxHeartbeats 8000000
namespace Go.Proofs.YtepicjpdhpojnaaGreatDoor
section
open Go.RowKit
def pt (w : World) (nn : Nat) (ns : List Nd) (ds : List Dv) (F : Fd) (e : Ending) (w' : World) : Prop :=
 (zk ns ds F ≠ 0 ∧ e = .returned (.tuple #[.slice none 0 0, .int .i64 (zk ns ds F)]) ∧ Hid (Below w.heap.size w w')) ∨ zk ns ds F = 0 ∧ mS w nn ds F.s e w'
theorem nA (An Ad As Al At : Option Addr) (nn cn nd cd n c nl cl nt ct : Nat) (ns : List Nd) (ds : List Dv) (F : Fd) (w : World) (h : FdM w An Ad As Al At nn cn nd cd n c nl cl nt ct ns ds F) :
 Calls Tryz.prog 32 #[.agg #[.slice An nn cn, .slice Ad nd cd], .agg #[.slice As n c, .slice Al nl cl, .slice At nt ct]] w (pt w nn ns ds F) := by
 have HF := iD h
 have HB := iD (vv.new w #[.slice An nn cn, .slice Ad nd cd] #[.slice As n c, .slice Al nl cl, .slice At nt ct])
 clear h
 go_enter Tryz.func32, Tryz.ntmps32
 go_upto_region 1 with (fail)
 generalize World.alloc (World.alloc w _) _ = W at *
 have k0 : W.cell? ⟨w.heap.size, 0, none⟩ = some (.slice An nn cn) := HB.out.b0.cell 0
 have k1 : W.cell? ⟨w.heap.size, 1, none⟩ = some (.slice Ad nd cd) := HB.out.b0.cell 1
 have f0 := HB.out.b1.cell 0
 have f1 := HB.out.b1.cell 1
 have f2 := HB.out.b1.cell 2
 go_wp2_with fail
 clear k0 k1 f0 f1 f2
 refine (vG An Ad As Al At nn cn nd cd n c nl cl nt ct ns ds F W (HF.out.later HB.out.bl)).mono ?_
 rintro e w1 ⟨rfl, hb1⟩
 have HB1 := iD (HB.out.later hb1)
 clear hb1 HB
 by_cases he : zk ns ds F = 0; rotate_left
 ·have q : (zk ns ds F != 0) = true := by simpa using he
  have HNZ := iD he
  clear he
  go_wp2_with fail
  go_ret2
  exact .inl ⟨HNZ.out, rfl, HB1.out.bl⟩
 have HFZ := iD he
 rw [he]
 clear he
 have HF1 := iD (HF.out.later HB1.out.bl)
 have k0 : w1.cell? ⟨w.heap.size, 0, none⟩ = some (.slice An nn cn) := HB1.out.b0.cell 0
 have k1 : w1.cell? ⟨w.heap.size, 1, none⟩ = some (.slice Ad nd cd) := HB1.out.b0.cell 1
 have f0 : w1.cell? ⟨w.heap.size + 1, 0, none⟩ = some (.slice As n c) := HB1.out.b1.cell 0
 go_wp2_with fail
 clear k0 k1 f0
 refine (oO An Ad As nn cn nd cd n c ns ds F.s w1 HF1.out.la HF1.out.hn HF1.out.hd HF1.out.hs HF1.out.sn HF1.out.sd (yo HFZ.out).1).mono ?_
 rintro e w2 ⟨co, A, m, c2, rfl, hC, hO, hb2⟩
 have HBE := iD (HB1.out.bl.trans (hb2.out.mono HB1.out.bl.size))
 have HO := iD (World.ownsRow.mono hO.out HB1.out.bl.size)
 clear hb2 hO
 go_wp2_with fail
 go_ret2
 exact .inr ⟨HFZ.out, co, A, m, c2, rfl, hC, HO, HBE⟩
theorem pT (An Ad As Al At : Option Addr) (nn cn nd cd n c nl cl nt ct : Nat) (ns : List Nd) (ds : List Dv) (F : Fd) (w : World) (h : FdM w An Ad As Al At nn cn nd cd n c nl cl nt ct ns ds F) :
 Calls Tryz.prog 33 #[.agg #[.slice An nn cn, .slice Ad nd cd], .agg #[.slice As n c, .slice Al nl cl, .slice At nt ct]] w (pt w nn ns ds F) := by
 have HF := iD h
 have HB := iD (vv.new w #[.slice An nn cn, .slice Ad nd cd] #[.slice As n c, .slice Al nl cl, .slice At nt ct])
 clear h
 go_enter Tryz.func33, Tryz.ntmps33
 go_upto_region 1 with (fail)
 generalize World.alloc (World.alloc w _) _ = W at *
 have k0 : W.cell? ⟨w.heap.size, 0, none⟩ = some (.slice An nn cn) := HB.out.b0.cell 0
 have k1 : W.cell? ⟨w.heap.size, 1, none⟩ = some (.slice Ad nd cd) := HB.out.b0.cell 1
 have f0 := HB.out.b1.cell 0
 have f1 := HB.out.b1.cell 1
 have f2 := HB.out.b1.cell 2
 go_wp2_with fail
 clear k0 k1 f0 f1 f2
 refine (wF An Ad As Al At nn cn nd cd n c nl cl nt ct ns ds F W (HF.out.later HB.out.bl)).mono ?_
 rintro e w1 ⟨rfl, hb1⟩
 have HB1 := iD (HB.out.later hb1)
 clear hb1 HB
 by_cases he : zk ns ds F = 0; rotate_left
 ·have q : (zk ns ds F != 0) = true := by simpa using he
  have HNZ := iD he
  clear he
  go_wp2_with fail
  go_ret2
  exact .inl ⟨HNZ.out, rfl, HB1.out.bl⟩
 have HFZ := iD he
 rw [he]
 clear he
 have HF1 := iD (HF.out.later HB1.out.bl)
 have k0 : w1.cell? ⟨w.heap.size, 0, none⟩ = some (.slice An nn cn) := HB1.out.b0.cell 0
 have k1 : w1.cell? ⟨w.heap.size, 1, none⟩ = some (.slice Ad nd cd) := HB1.out.b0.cell 1
 have f0 : w1.cell? ⟨w.heap.size + 1, 0, none⟩ = some (.slice As n c) := HB1.out.b1.cell 0
 go_wp2_with fail
 clear k0 k1 f0
 refine (pU An Ad As nn cn nd cd n c ns ds F.s w1 HF1.out.la HF1.out.hn HF1.out.hd HF1.out.hs HF1.out.sn HF1.out.sd (yo HFZ.out).1).mono ?_
 rintro e w2 ⟨co, A, m, c2, rfl, hC, hO, hb2⟩
 have HBE := iD (HB1.out.bl.trans (hb2.out.mono HB1.out.bl.size))
 have HO := iD (World.ownsRow.mono hO.out HB1.out.bl.size)
 clear hb2 hO
 go_wp2_with fail
 go_ret2
 exact .inr ⟨HFZ.out, co, A, m, c2, rfl, hC, HO, HBE⟩
theorem jb (nn : Nat) (ds : List Dv) (s : List Int) : ∃ cl, uJ nn ds s cl := ⟨(List.range nn).map fun v : Nat => kp ds s v, by simp, fun v hv => by simp [hv]⟩
def iN (w : World) (N Fc : Array Value) (fs ls : List Lk) (n gk : Nat) (iv : Value) (wr : World) : Prop := ∃ i : Nat, iv = .int .i64 i ∧ i ≤ n ∧ gk = n - i ∧ Hid (su fs ls i = true) ∧ Hid (vv w N Fc wr)
def iM (w : World) (N Fc : Array Value) (B : Nat) (Ac : Option Addr) (nn : Nat) (co z : List Int) (n gk : Nat) (iv : Value) (wr : World) : Prop := ∃ t : Nat, iv = .int .i64 t ∧ t ≤ n ∧ gk = n - t ∧ Hid (tG co z t = true) ∧ Hid (vv w N Fc wr) ∧ Hid (zQ wr B Ac nn nn co)
theorem qK (An Ad As Al At Am Az : Option Addr) (nn cn nd cd n c nl cl nt ct nm cm nz cz : Nat) (ns : List Nd) (ds : List Dv) (F : Fd) (ls : List Lk) (z : List Int) (ea : Bool) (w : World) (h : FdM w An Ad As Al At nn cn nd cd n c nl cl nt ct ns ds F) (hm : Sl w w.heap.size 3 Am nm cm (ls.flatMap Lk.cells)) (hz : Sl w w.heap.size 1 Az nz cz (zK z)) (hnz : nz ≤ 10000) :
 Calls Tryz.prog 35 #[.agg #[.slice An nn cn, .slice Ad nd cd], .agg #[.slice As n c, .slice Al nl cl, .slice At nt ct], .slice Am nm cm, .slice Az nz cz, .bool ea] w (rD w nn ns ds F ls z ea) := by
 obtain ⟨hl1, hl2, hl3, -, -⟩ := h.ln
 have HL1 := iD hl1; have HL2 := iD hl2; have HL3 := iD hl3
 have HF := iD h; have HM := iD hm; have HZ := iD hz
 have HLM := iD (hm.len (fun _ => rfl) (by decide)); have HLZ := iD (hz.len (fun _ => rfl) (by decide))
 have hml := hm.le; have hzl := hz.le
 have HB := iD (vv.new w #[.slice An nn cn, .slice Ad nd cd] #[.slice As n c, .slice Al nl cl, .slice At nt ct])
 clear h hm hz hl1 hl2 hl3
 go_enter Tryz.func35, Tryz.ntmps35
 go_upto_region 1 with (fail)
 generalize World.alloc (World.alloc w _) _ = W at *
 have k0 : W.cell? ⟨w.heap.size, 0, none⟩ = some (.slice An nn cn) := HB.out.b0.cell 0
 have k1 : W.cell? ⟨w.heap.size, 1, none⟩ = some (.slice Ad nd cd) := HB.out.b0.cell 1
 have f0 := HB.out.b1.cell 0
 have f1 := HB.out.b1.cell 1
 have f2 := HB.out.b1.cell 2
 go_wp2_with fail
 clear k0 k1 f0 f1 f2
 refine (wF An Ad As Al At nn cn nd cd n c nl cl nt ct ns ds F W (HF.out.later HB.out.bl)).mono ?_
 rintro e w1 ⟨rfl, hb1⟩
 have HB1 := iD (HB.out.later hb1)
 clear hb1 HB
 by_cases he : zk ns ds F = 0; rotate_left
 ·have q : (zk ns ds F != 0) = true := by simpa using he
  have HE : Hid (yn ns ds F ls z = zk ns ds F) := by unfold Hid yn; rw [if_pos he]
  have HNZ := iD he
  clear he
  go_wp2_with fail
  go_ret2
  exact ⟨.inl ⟨by rw [HE.out]; exact HNZ.out, by rw [HE.out]; rfl⟩, HB1.out.bl⟩
 have HE1 : Hid (yn ns ds F ls z = zv ns ds ls z) := by unfold Hid yn; rw [if_neg (by omega)]
 have HFZ := iD he
 rw [he]
 clear he
 have HF1 := iD (HF.out.later HB1.out.bl)
 have hz1 := HB1.out.bl.size
 have k0 : w1.cell? ⟨w.heap.size, 0, none⟩ = some (.slice An nn cn) := HB1.out.b0.cell 0
 have k1 : w1.cell? ⟨w.heap.size, 1, none⟩ = some (.slice Ad nd cd) := HB1.out.b0.cell 1
 go_wp2_with fail
 clear k0 k1
 refine (xY An Ad Am nn cn nd cd nm cm w.heap.size w.heap.size w.heap.size ns ds ls w1 (HF.out.hn.below HB1.out.bl lR) (HF.out.hd.below HB1.out.bl lR) (HM.out.below HB1.out.bl lR) hz1 hz1 hz1 HF.out.sn HF.out.sd).mono ?_
 rintro e w2 ⟨rfl, hb2⟩
 have HB2 := iD (HB1.out.later hb2)
 clear hb2 HB1 HF1 hz1
 by_cases he : zL ns ds ls = 0; rotate_left
 ·have q : (zL ns ds ls != 0) = true := by simpa using he
  have HE : Hid (yn ns ds F ls z = zL ns ds ls) := by unfold Hid; rw [HE1.out]; unfold zv; rw [if_pos he]
  have HNZ := iD he
  clear he
  go_wp2_with fail
  go_ret2
  exact ⟨.inl ⟨by rw [HE.out]; exact HNZ.out, by rw [HE.out]; rfl⟩, HB2.out.bl⟩
 have HE2 : Hid (zv ns ds ls z = zd ns ds z) := by unfold Hid zv; rw [if_neg (by omega)]
 have HLZ0 := iD he
 rw [he]
 clear he
 have hz2 := HB2.out.bl.size
 have k0 : w2.cell? ⟨w.heap.size, 0, none⟩ = some (.slice An nn cn) := HB2.out.b0.cell 0
 have k1 : w2.cell? ⟨w.heap.size, 1, none⟩ = some (.slice Ad nd cd) := HB2.out.b0.cell 1
 go_wp2_with fail
 clear k0 k1
 refine (so An Ad Az nn cn nd cd nz cz ns ds z w2 ((HF.out.hn.below HB2.out.bl lR).more hz2) ((HF.out.hd.below HB2.out.bl lR).more hz2) ((HZ.out.below HB2.out.bl lR).more hz2) HF.out.sn HF.out.sd).mono ?_
 rintro e w3 ⟨rfl, hb3⟩
 have HB3 := iD (HB2.out.later hb3)
 clear hb3 HB2 hz2
 by_cases he : zd ns ds z = 0; rotate_left
 ·have q : (zd ns ds z != 0) = true := by simpa using he
  have HE : Hid (yn ns ds F ls z = zd ns ds z) := by unfold Hid; rw [HE1.out, HE2.out]
  have HNZ := iD he
  clear he
  go_wp2_with fail
  go_ret2
  exact ⟨.inl ⟨by rw [HE.out]; exact HNZ.out, by rw [HE.out]; rfl⟩, HB3.out.bl⟩
 have HSI : Hid (zv ns ds ls z = 0) := HE2.out.trans he
 have HSE : Hid (yn ns ds F ls z = 0) := HE1.out.trans HSI.out
 obtain ⟨hck, hzp, hzr⟩ := y5 he
 have HOK := iD (vu.of hck)
 have HZI : Hid (∀ v ∈ z, 0 ≤ v ∧ v < nn) := fun v hv => by have := vP hzr v hv; rw [HL1.out] at this; omega
 have HSS := iD (yD (yo HFZ.out).1)
 have hdl := HOK.out.dl
 have hnl := HOK.out.nl
 have hndn : nd ≤ n ∧ nd ≤ 64 ∧ nn ≤ 32 := by have := HSS.out.2.1; have := HL1.out; have := HL2.out; have := HL3.out; omega
 rw [he]
 clear he hck hzp hzr HE1 HE2 hdl hnl
 go_wp2_with fail
 refine yO [(9, 0), (1, 1), (2, 0), (0, 2), (20, 0), (13, 1), (29, 0)] 15 (nm) (iN w #[.slice An nn cn, .slice Ad nd cd] #[.slice As n c, .slice Al nl cl, .slice At nt ct] F.ls ls nm) (by (try dsimp only [gt]); exact ⟨0, rfl, Nat.zero_le _, rfl, rfl, HB3⟩) (by kernel_rfl) ?_
 intro u1 p15 gk wr a hrel ha J1 K1 hJ1 hK1
 dsimp only [zi, Go.Proofs.YtepicjpdhpojnaaGreatDoor.v1, Nat.reduceAdd] at ha
 subst ha
 clear HB3
 obtain ⟨i, rfl, hi, rfl, HA, HB⟩ := hrel
 by_cases hlt : i < nm; rotate_left
 ·have hii : decide ((i : Int) < (nm : Int)) = false := by simp; omega
  have hii2 : decide (i < nm) = false := by simp; omega
  have HAL : Hid (su F.ls ls ls.length = true) := by have h := HA.out; rwa [show i = ls.length by have := HLM.out; omega] at h
  have hz4 := HB.out.bl.size
  have k0 : wr.cell? ⟨w.heap.size, 0, none⟩ = some (.slice An nn cn) := HB.out.b0.cell 0
  have k1 : wr.cell? ⟨w.heap.size, 1, none⟩ = some (.slice Ad nd cd) := HB.out.b0.cell 1
  have f0 : wr.cell? ⟨w.heap.size + 1, 0, none⟩ = some (.slice As n c) := HB.out.b1.cell 0
  go_wp2_with fail
  clear k0 k1 f0 hii hii2
  refine (qa An Ad As nn cn nd cd n c w.heap.size w.heap.size w.heap.size ns ds F.s wr (HF.out.hn.below HB.out.bl lR) (HF.out.hd.below HB.out.bl lR) (HF.out.hs.below HB.out.bl lR) hz4 hz4 hz4 HF.out.sn HF.out.sd (by omega) (fun _ => ⟨hndn.1, by have := HOK.out.e; rwa [HL1.out] at this, HOK.out.ne⟩) (fun _ => ⟨by have := HOK.out.a; rwa [HL1.out] at this, HOK.out.k⟩)).mono ?_
  rintro e w5 ⟨hb5, hcase⟩
  rcases hcase with ⟨he, _⟩ | ⟨_, Ac, co, rfl, hO, hC⟩
  ·exact absurd (yo HFZ.out).1 he
  have HO := iD hO.out
  have HC := iD hC.out
  have HB5 := iD (HB.out.later hb5.out)
  have hzw := HB.out.bl.size
  have hcl := HO.out.sl.le
  clear hb5 hO hC HB
  go_wp2_with fail
  refine yO [(9, 0), (1, 1), (5, 0), (0, 2), (38, 0), (14, 1), (7, 0)] 18 (nz) (iM w #[.slice An nn cn, .slice Ad nd cd] #[.slice As n c, .slice Al nl cl, .slice At nt ct] wr.heap.size Ac nn co z nz) (by (try dsimp only [gt]); exact ⟨0, rfl, Nat.zero_le _, rfl, rfl, HB5, HO⟩) (by kernel_rfl) ?_
  intro u2 p18 gk wq a hrel ha J2 K2 hJ2 hK2
  dsimp only [zi, Go.Proofs.YtepicjpdhpojnaaGreatDoor.v1, Nat.reduceAdd] at ha
  subst ha
  clear HB5 HO
  obtain ⟨t, rfl, ht, rfl, HD, HB, HO⟩ := hrel
  by_cases hlt2 : t < nz; rotate_left
  ·have hii : decide ((t : Int) < (nz : Int)) = false := by simp; omega
   have hii2 : decide (t < nz) = false := by simp; omega
   have HDD : Hid (tG co z z.length = true) := by have h := HD.out; rwa [show t = z.length by have := HLZ.out; omega] at h
   have HNO : Hid (vV ns ds F ls z co false = true) := by unfold Hid; rw [ni, HAL.out, HDD.out]; rfl
   rcases ea with _ | _
   ·go_wp2_with fail
    go_ret2
    exact ⟨.inr ⟨HSE.out, co, HC, by rw [HNO.out]; rfl⟩, HB.out.bl⟩
   have HYE : Hid (vV ns ds F ls z co true = vU ns ds ls z) := by unfold Hid; rw [pQ, HNO.out, Bool.true_and]
   have hz6 := HB.out.bl.size
   have k0 : wq.cell? ⟨w.heap.size, 0, none⟩ = some (.slice An nn cn) := HB.out.b0.cell 0
   have k1 : wq.cell? ⟨w.heap.size, 1, none⟩ = some (.slice Ad nd cd) := HB.out.b0.cell 1
   go_wp2_with fail
   clear k0 k1 hii hii2
   have hsd := n7 An Ad Am Az nn cn nd cd nm cm nz cz ns ds ls z wq (HF.out.la.below HB.out.bl lR) ((HF.out.hn.below HB.out.bl lR).more hz6) ((HF.out.hd.below HB.out.bl lR).more hz6) ((HM.out.below HB.out.bl lR).more hz6) ((HZ.out.below HB.out.bl lR).more hz6) HF.out.sn HF.out.sd hnz (by omega)
   unfold tA at hsd
   rw [HSI.out] at hsd
   refine hsd.mono ?_
   rintro e w7 ⟨rfl, hb7⟩
   have HBE := iD (HB.out.bl.trans (hb7.out.mono hz6))
   clear hsd hb7
   go_wp2_with fail
   go_ret2
   exact ⟨.inr ⟨HSE.out, co, HC, by rw [HYE.out]; rfl⟩, HBE.out⟩
  obtain ⟨bz, oz, v, hAz, hbz, hxz, hcz⟩ := (HZ.out.below HB.out.bl lR).at1 hlt2
  have hvr := HZI.out v (List.mem_of_getElem? hxz)
  obtain ⟨v, rfl⟩ := Int.eq_ofNat_of_zero_le hvr.1
  have hv6 : v < nn := by omega
  obtain ⟨gc, x, hAc, hg1, hg2, hxc, hcc, -, -⟩ := HO.out.at hv6
  have HDS := iD (mK (cl := co) hxz)
  have HLV : Hid (vB co (v : Int) = !(bits BinOp.and IntKind.i64 x 1 == 0)) := by unfold Hid vB; rw [Int.toNat_natCast, List.getD_eq_getElem?_getD, hxc]; rfl
  have HXV : Hid (x = 0 ∨ x = 1 ∨ x = 2 ∨ x = 3) := by
   have h := HC.out.2 v hv6
   rw [hxc] at h
   have h := Option.some.inj h
   unfold kp at h
   rcases xe (jB xQ ds F.s v) 1 with ⟨_, e⟩ | ⟨_, e⟩ <;> rcases xe (jB (· = 4) ds F.s v) 2 with ⟨_, f⟩ | ⟨_, f⟩ <;> rw [e, f] at h <;> unfold Hid <;> omega
  have HZT : Hid (z[t]? = some (v : Int)) := hxz
  subst hAz
  subst hAc
  clear hvr hxz hxc
  rcases hbb : (bits BinOp.and IntKind.i64 x 1 == 0) with _ | _
  ·have HNO : Hid (vV ns ds F ls z co ea = false) := by
    have h1 : vB co (v : Int) = true := by rw [HLV.out, hbb]; rfl
    have h2 : tG co z z.length = false := by
     unfold tG
     rw [List.take_of_length_le lR, List.all_eq_false]
     exact ⟨(v : Int), List.mem_of_getElem? HZT.out, by rw [h1]; decide⟩
    have h3 : vV ns ds F ls z co false = false := by rw [ni, h2, Bool.and_false]
    rcases ea with _ | _
    ·exact h3
    ·unfold Hid; rw [pQ, h3]; rfl
   have qg : decide (0 < bits BinOp.and IntKind.i64 x 1) = true := by
    rcases HXV.out with rfl | rfl | rfl | rfl
    ·exact absurd hbb (by decide)
    ·decide
    ·exact absurd hbb (by decide)
    ·decide
   clear hbb
   go_wp2_with fail
   go_ret2
   exact ⟨.inr ⟨HSE.out, co, HC, by rw [HNO.out]; rfl⟩, HB.out.bl⟩
  ·have HN : Hid (tG co z (t + 1) = true) := by unfold Hid; rw [HDS.out, HD.out, HLV.out, hbb]; rfl
   have qg : decide (0 < bits BinOp.and IntKind.i64 x 1) = false := by
    rcases HXV.out with rfl | rfl | rfl | rfl
    ·decide
    ·exact absurd hbb (by decide)
    ·decide
    ·exact absurd hbb (by decide)
   clear hbb
   go_wp2_with fail
   refine Handed.intro (nz - (t + 1)) (by omega) (hJ2 _ _ _ (vL.back 18 ?_ (by kernel_rfl)))
   dsimp only [gt]
   exact ⟨t + 1, by go_num, by omega, rfl, HN, HB, HO⟩
 obtain ⟨b, off, d, p, q, hA, hbb, hx, l0, l1, l2⟩ := (HM.out.below HB.out.bl lR).lock hlt
 have HAS := iD (lc (fs := F.ls) hx)
 have HLC := iD (And.intro l0 (And.intro l1 l2))
 have hbw : b < wr.heap.size := by have := HB.out.bl.size; omega
 have HSL : Hid (Sl wr.drew wr.drew.heap.size 3 Al nl cl (F.ls.flatMap Lk.cells)) := ((HF.out.hl.below HB.out.bl lR).more HB.out.bl.size).drew
 obtain ⟨hv, hhv⟩ : ∃ hv, hv = xu F.ls ⟨d, p, q⟩ := ⟨_, rfl⟩
 have HHV := iD hhv
 subst hA
 clear hx l0 l1 l2 hbb hhv
 go_upto_region 13 with (fail)
 refine za (S := fun W' => Below wr.heap.size wr W') (J := []) (n := _) ((0, true) :: (1, true) :: (2, true) :: (3, true) :: (4, true) :: (5, true) :: (6, false) :: (7, true) :: []) (by as_aux_lemma => kernel_rfl) (by rfl) (zM (k := 6) (by go_simp; rfl) (zM (k := 2) (by go_simp; rfl) (zM (k := 15) (by go_simp; rfl) yH))) ?_ (fun _ _ _ _ _ h => h) (fun Q2 A hsz hbase hn2 AA => ?_)
 ·exact (Below.refl _ _).drew
 try dsimp only at AA
 obtain ⟨b6, b2, b15, -⟩ := hbase
 refine oT 0 43 ?_ rfl rfl (zB rfl) AA (fun ρ AB w hSw => ?_) ?_
 rotate_left
 ·(have e6 := tm AB hsz 6 rfl (zF b6); clear AB; (try dsimp only at hSw); go_simp; try with_reducible rfl)
 refine oT 1 44 ?_ rfl rfl (zB rfl) AA (fun ρ AB w hSw => ?_) ?_
 rotate_left
 ·(have e43 := tm AB hsz 43 rfl zA; clear AB; (try dsimp only at hSw); have k1 := (HB.out.later hSw).b1.cell 1; clear hSw; go_simp; try with_reducible rfl)
 refine oM 2 45 ?_ rfl rfl rfl (zB rfl) AA (fun ρ AB => ?_) ?_
 rotate_left
 ·(have e2 := tm AB hsz 2 rfl (zC rfl (zC rfl (zF b2))); exact e2)
 refine oM 3 46 ?_ rfl rfl rfl (zB rfl) AA (fun ρ AB => ?_) ?_
 rotate_left
 ·(have e15 := tm AB hsz 15 rfl (zC rfl (zC rfl (zC rfl (zF b15)))); exact e15)
 refine oT 4 47 ?_ rfl rfl (zB rfl) AA (fun ρ AB w hSw => ?_) ?_
 rotate_left
 ·(have e45 := tm AB hsz 45 rfl (zC rfl zA); have e46 := tm AB hsz 46 rfl zA; clear AB; (try dsimp only at hSw); go_simp; try with_reducible rfl)
 refine oT 5 48 ?_ rfl rfl (zB rfl) AA (fun ρ AB w hSw => ?_) ?_
 rotate_left
 ·(have e47 := tm AB hsz 47 rfl zA; clear AB; (try dsimp only at hSw); have l0 := (hSw.cell (p := ⟨b, off + i * 3, none⟩) hbw).trans HLC.out.1; have l1 := (hSw.cell (p := ⟨b, off + i * 3 + 1, none⟩) hbw).trans HLC.out.2.1; have l2 := (hSw.cell (p := ⟨b, off + i * 3 + 2, none⟩) hbw).trans HLC.out.2.2; clear hSw; go_simp; try with_reducible rfl)
 refine yR (i := 6) (d := 49) (vs := ?_) rfl rfl rfl (zB rfl) (fun ρ AB => ?_) ?_ ?_
 rotate_left
 ·(have e44 := tm AB hsz 44 rfl (zD rfl rfl rfl rfl zA); have e48 := tm AB hsz 48 rfl zA; simp only [List.map_toArray, List.map_cons, List.map_nil, e44, e48]; try with_reducible rfl)
 ·(intro w; go_simp)
 refine (nx Al nl cl F.ls d p q wr.drew HSL.out).mono ?_
 rintro e w5 ⟨rfl, hb5⟩
 rw [← HHV.out]
 have HB5 := iD (HB.out.later ((Below.refl _ _).drew.trans hb5.out))
 refine ⟨_, rfl, fun _ => ?_, fun AA' => ?_⟩
 ·exact (Below.refl _ _).drew.trans hb5.out
 replace AA := AA' rfl
 clear AA'
 try dsimp only at AA
 refine oT 7 50 ?_ rfl rfl (zB rfl) AA (fun ρ AB w hSw => ?_) ?_
 rotate_left
 ·(have e49 := tm AB hsz 49 rfl zA; clear AB; (try dsimp only at hSw); go_simp; try with_reducible rfl)
 refine yG hn2 ?_
 clear AA hn2 b6 b2 b15 hsz A Q2
 simp only [yF, zu, yQ, xO, xP]
 clear HB HSL HLC hbw
 rcases hv with _ | _
 ·have HNO : Hid (∀ co, vV ns ds F ls z co ea = false) := fun co => by
   have h2 : su F.ls ls ls.length = false := by
    rcases hh : su F.ls ls ls.length with _ | _
    ·rfl
    ·have h3 : su F.ls ls (i + 1) = true := by
      unfold su at hh ⊢
      rw [List.take_of_length_le lR, List.all_eq_true] at hh
      exact List.all_eq_true.2 fun k hk => hh k (List.mem_of_mem_take hk)
     rw [HAS.out, HA.out, ← HHV.out] at h3
     cases h3
   have h3 : vV ns ds F ls z co false = false := by rw [ni, h2, Bool.false_and]
   rcases ea with _ | _
   ·exact h3
   ·rw [pQ, h3]; rfl
  obtain ⟨co, hco⟩ := jb nn ds F.s
  go_wp2_with fail
  go_ret2
  exact ⟨.inr ⟨HSE.out, co, hco, by rw [HNO.out co]; rfl⟩, HB5.out.bl⟩
 ·have HN : Hid (su F.ls ls (i + 1) = true) := by unfold Hid; rw [HAS.out, HA.out, ← HHV.out]; rfl
  go_wp2_with fail
  refine Handed.intro (nm - (i + 1)) (by omega) (hJ1 _ _ _ (vL.back 15 ?_ (by kernel_rfl)))
  dsimp only [gt]
  exact ⟨i + 1, by go_num, by omega, rfl, HN, HB5⟩
end
section
open Go.RowKit
structure Ev where
 k : Int
 d : Int
 p : Int
 q : Int
def Ev.cells (x : Ev) : List Value := [.int .i64 x.k, .int .i64 x.d, .int .i64 x.p, .int .i64 x.q]
noncomputable def po (ns : List Nd) (ds : List Dv) (a : Fd × Nat) (x : Ev) : Fd × Nat := if zR ns ds a.1 x.k x.d x.p x.q = 0 then (yu ds a.1 x.k x.d x.p x.q, a.2 + 1) else a
noncomputable def uU (ns : List Nd) (ds : List Dv) (F : Fd) (evs : List Ev) (j : Nat) : Fd × Nat := (evs.take j).foldl (po ns ds) (F, 0)
noncomputable def oF (ns : List Nd) (ds : List Dv) (F : Fd) (evs : List Ev) : Fd × Nat := evs.foldl (po ns ds) (F, 0)
theorem rV {ns : List Nd} {ds : List Dv} {F : Fd} {evs : List Ev} {j : Nat} (h : evs.length ≤ j) : uU ns ds F evs j = oF ns ds F evs := by unfold uU oF; rw [List.take_of_length_le h]
theorem qV {ns : List Nd} {ds : List Dv} {F F' : Fd} {evs : List Ev} {j k : Nat} {x : Ev} (h : uU ns ds F evs j = (F', k)) (hx : evs[j]? = some x) (h0 : zR ns ds F' x.k x.d x.p x.q = 0) : uU ns ds F evs (j + 1) = (yu ds F' x.k x.d x.p x.q, k + 1) := by
 unfold uU at h ⊢
 rw [wZ hx, List.foldl_append, h, List.foldl_cons, List.foldl_nil]
 unfold po
 rw [if_pos h0]
theorem oE {ns : List Nd} {ds : List Dv} {F F' : Fd} {evs : List Ev} {j k : Nat} {x : Ev} (h : uU ns ds F evs j = (F', k)) (hx : evs[j]? = some x) (h0 : zR ns ds F' x.k x.d x.p x.q ≠ 0) : uU ns ds F evs (j + 1) = (F', k) := by
 unfold uU at h ⊢
 rw [wZ hx, List.foldl_append, h, List.foldl_cons, List.foldl_nil]
 unfold po
 rw [if_neg h0]
def rE (w : World) (ns : List Nd) (ds : List Dv) (F : Fd) (evs : List Ev) (e : Ending) (w' : World) : Prop :=
 ((zk ns ds F ≠ 0 ∧ e = .returned (.tuple #[.agg #[.slice none 0 0, .slice none 0 0, .slice none 0 0], .int .i64 0, .int .i64 (zk ns ds F)])) ∨ zk ns ds F = 0 ∧ ∃ (A1 A2 A3 : Option Addr) (n1 c1 n2 c2 n3 c3 : Nat), e = .returned (.tuple #[.agg #[.slice A1 n1 c1, .slice A2 n2 c2, .slice A3 n3 c3], .int .i64 (oF ns ds F evs).2, .int .i64 0]) ∧ Hid (Fd3 w' A1 n1 c1 A2 n2 c2 A3 n3 c3 (oF ns ds F evs).1)) ∧ Hid (Below w.heap.size w w')
structure RuM (w : World) (An Ad As Al At : Option Addr) (nn cn nd cd n c nl cl nt ct : Nat) (ns : List Nd) (ds : List Dv) (F : Fd) (wr : World) : Prop where
 b0 : Blk wr w.heap.size 30 #[.slice An nn cn, .slice Ad nd cd]
 b1 : Blk wr (w.heap.size + 1) 35 #[.slice As n c, .slice Al nl cl, .slice At nt ct]
 b2 : Blk wr (w.heap.size + 2) 35 #[.slice none 0 0, .slice none 0 0, .slice none 0 0]
 x : FdM wr An Ad As Al At nn cn nd cd n c nl cl nt ct ns ds F
 bl : Below w.heap.size w wr
section
variable {w wr wr' : World} {A1 A2 A3 B1 B2 B3 : Option Addr} {n1 c1 n2 c2 n3 c3 m1 d1 m2 d2 m3 d3 : Nat} {F' : Fd} {An Ad As Al At : Option Addr} {nn cn nd cd n c nl cl nt ct : Nat} {ns : List Nd} {ds : List Dv} {F : Fd}
theorem FdM.put3 {x : Nat} {t : TypeId} (h : FdM wr An Ad As Al At nn cn nd cd n c nl cl nt ct ns ds F) (hx : Blk wr x t #[.slice B1 m1 d1, .slice B2 m2 d2, .slice B3 m3 d3]) (h0 : Laid w) (hl : w.heap.size ≤ x) : FdM (((wr.setCell ⟨x, 0, none⟩ (.slice A1 n1 c1)).setCell ⟨x, 1, none⟩ (.slice A2 n2 c2)).setCell ⟨x, 2, none⟩ (.slice A3 n3 c3)) An Ad As Al At nn cn nd cd n c nl cl nt ct ns ds F :=
 ⟨(h.hn.apart3 hx (pd _)).more (by simp), (h.hd.apart3 hx (pe _)).more (by simp), (h.hs.apart3 hx (yk _)).more (by simp), (h.hl.apart3 hx (uB _)).more (by simp), (h.ht.apart3 hx (yk _)).more (by simp), ((h.la.grown h0 (zY _ ⟨x, 0, none⟩ _) hl).grown h0 (zY _ ⟨x, 1, none⟩ _) hl).grown h0 (zY _ ⟨x, 2, none⟩ _) hl, h.sn, h.sd⟩
theorem Fd3.put3 {x : Nat} {t : TypeId} (h : Fd3 wr As n c Al nl cl At nt ct F) (hx : Blk wr x t #[.slice B1 m1 d1, .slice B2 m2 d2, .slice B3 m3 d3]) : Fd3 (((wr.setCell ⟨x, 0, none⟩ (.slice A1 n1 c1)).setCell ⟨x, 1, none⟩ (.slice A2 n2 c2)).setCell ⟨x, 2, none⟩ (.slice A3 n3 c3)) As n c Al nl cl At nt ct F :=
 ⟨(h.1.apart3 hx (yk _)).more (by simp), (h.2.1.apart3 hx (uB _)).more (by simp), (h.2.2.apart3 hx (yk _)).more (by simp)⟩
theorem FdM.of3 (h : FdM wr An Ad As Al At nn cn nd cd n c nl cl nt ct ns ds F) (h3 : Fd3 wr A1 n1 c1 A2 n2 c2 A3 n3 c3 F') : FdM wr An Ad A1 A2 A3 nn cn nd cd n1 c1 n2 c2 n3 c3 ns ds F' := ⟨h.hn, h.hd, h3.1, h3.2.1, h3.2.2, h.la, h.sn, h.sd⟩
theorem FdM.fd3 (h : FdM wr An Ad As Al At nn cn nd cd n c nl cl nt ct ns ds F) : Fd3 wr As n c Al nl cl At nt ct F := ⟨h.hs, h.hl, h.ht⟩
theorem RuM.later (h : RuM w An Ad As Al At nn cn nd cd n c nl cl nt ct ns ds F wr) (hb : Below wr.heap.size wr wr') : RuM w An Ad As Al At nn cn nd cd n c nl cl nt ct ns ds F wr' := ⟨h.b0.below hb h.b0.lt, h.b1.below hb h.b1.lt, h.b2.below hb h.b2.lt, h.x.later hb, h.bl.trans (hb.mono h.bl.size)⟩
theorem RuM.take (h : RuM w An Ad As Al At nn cn nd cd n c nl cl nt ct ns ds F wr) (h0 : Laid w) (hy : Fd3 wr A1 n1 c1 A2 n2 c2 A3 n3 c3 F') : RuM w An Ad A1 A2 A3 nn cn nd cd n1 c1 n2 c2 n3 c3 ns ds F' (((wr.setCell ⟨w.heap.size + 1, 0, none⟩ (.slice A1 n1 c1)).setCell ⟨w.heap.size + 1, 1, none⟩ (.slice A2 n2 c2)).setCell ⟨w.heap.size + 1, 2, none⟩ (.slice A3 n3 c3)) :=
 ⟨((h.b0.far (p := ⟨w.heap.size + 1, 0, none⟩) (by simp) _).far (p := ⟨w.heap.size + 1, 1, none⟩) (by simp) _).far (p := ⟨w.heap.size + 1, 2, none⟩) (by simp) _, ((h.b1.set 0 _).set 1 _).set 2 _, ((h.b2.far (p := ⟨w.heap.size + 1, 0, none⟩) (by simp) _).far (p := ⟨w.heap.size + 1, 1, none⟩) (by simp) _).far (p := ⟨w.heap.size + 1, 2, none⟩) (by simp) _, (h.x.of3 hy).put3 h.b1 h0 (by omega), ((h.bl.setCell (by simp) _).setCell (by simp) _).setCell (by simp) _⟩
theorem RuM.new (h : FdM w An Ad As Al At nn cn nd cd n c nl cl nt ct ns ds F) : RuM w An Ad As Al At nn cn nd cd n c nl cl nt ct ns ds F (((w.alloc (.cells #[.slice An nn cn, .slice Ad nd cd] 30)).alloc (.cells #[.slice As n c, .slice Al nl cl, .slice At nt ct] 35)).alloc (.cells #[.slice none 0 0, .slice none 0 0, .slice none 0 0] 35)) := by
 have h1 := Blk.new (w.alloc (.cells #[.slice An nn cn, .slice Ad nd cd] 30)) 35 #[.slice As n c, .slice Al nl cl, .slice At nt ct]
 have h2 := Blk.new ((w.alloc (.cells #[.slice An nn cn, .slice Ad nd cd] 30)).alloc (.cells #[.slice As n c, .slice Al nl cl, .slice At nt ct] 35)) 35 #[.slice none 0 0, .slice none 0 0, .slice none 0 0]
 rw [World.size_alloc] at h1
 rw [World.size_alloc, World.size_alloc] at h2
 have hb : Below w.heap.size w (((w.alloc (.cells #[.slice An nn cn, .slice Ad nd cd] 30)).alloc (.cells #[.slice As n c, .slice Al nl cl, .slice At nt ct] 35)).alloc (.cells #[.slice none 0 0, .slice none 0 0, .slice none 0 0] 35)) := (((Below.refl _ _).alloc lR _).alloc (by simp) _).alloc (by simp; omega) _
 exact ⟨((Blk.new w _ _).alloc _).alloc _, h1.alloc _, h2, h.later hb, hb⟩
end
def RuR (w : World) (An Ad : Option Addr) (nn cn nd cd : Nat) (ns : List Nd) (ds : List Dv) (F0 : Fd) (evs : List Ev) (m gk : Nat) (dv iv : Value) (wr : World) : Prop :=
 ∃ (j k n c nl cl nt ct : Nat) (As Al At : Option Addr) (F : Fd), dv = .int .i64 k ∧ iv = .int .i64 j ∧ j ≤ m ∧ gk = m - j ∧ k ≤ j ∧ Hid (RuM w An Ad As Al At nn cn nd cd n c nl cl nt ct ns ds F wr) ∧ Hid (zk ns ds F = 0) ∧ Hid (uU ns ds F0 evs j = (F, k))
theorem kg (An Ad As Al At Ae : Option Addr) (nn cn nd cd n c nl cl nt ct m cm : Nat) (ns : List Nd) (ds : List Dv) (F : Fd) (evs : List Ev) (w : World) (h : FdM w An Ad As Al At nn cn nd cd n c nl cl nt ct ns ds F) (he : Sl w w.heap.size 4 Ae m cm (evs.flatMap Ev.cells)) :
 Calls Tryz.prog 30 #[.agg #[.slice An nn cn, .slice Ad nd cd], .agg #[.slice As n c, .slice Al nl cl, .slice At nt ct], .slice Ae m cm] w (rE w ns ds F evs) := by
 have HH := iD (RuM.new h)
 have HLW := iD h.la
 have HE := iD he
 have HLE := iD (he.len (fun _ => rfl) (by decide))
 have hml := he.le
 clear h he
 go_enter Tryz.func30, Tryz.ntmps30
 go_upto_region 1 with (fail)
 rw [show w.heap.size + 1 + 1 = w.heap.size + 2 from rfl]
 generalize World.alloc (World.alloc (World.alloc w _) _) _ = W at *
 have k0 : W.cell? ⟨w.heap.size, 0, none⟩ = some (.slice An nn cn) := HH.out.b0.cell 0
 have k1 : W.cell? ⟨w.heap.size, 1, none⟩ = some (.slice Ad nd cd) := HH.out.b0.cell 1
 have f0 := HH.out.b1.cell 0
 have f1 := HH.out.b1.cell 1
 have f2 := HH.out.b1.cell 2
 go_wp2_with fail
 clear k0 k1 f0 f1 f2
 refine (vG An Ad As Al At nn cn nd cd n c nl cl nt ct ns ds F W HH.out.x).mono ?_
 rintro e w1 ⟨rfl, hb1⟩
 have HM := iD (HH.out.later hb1)
 clear hb1 HH
 by_cases he : zk ns ds F = 0; rotate_left
 ·have q : (zk ns ds F != 0) = true := by simpa using he
  have HNZ := iD he
  have d0 := HM.out.b2.cell 0
  have d1 := HM.out.b2.cell 1
  have d2 := HM.out.b2.cell 2
  have y0 := HM.out.b2.frozen 0
  have y1 := HM.out.b2.frozen 1
  have y2 := HM.out.b2.frozen 2
  have HBE : Hid (Below w.heap.size w (((w1.setCell ⟨w.heap.size + 2, 0, none⟩ (.slice none 0 0)).setCell ⟨w.heap.size + 2, 1, none⟩ (.slice none 0 0)).setCell ⟨w.heap.size + 2, 2, none⟩ (.slice none 0 0))) := ((HM.out.bl.setCell (by simp) _).setCell (by simp) _).setCell (by simp) _
  have HSY : Hid (Blk (((w1.setCell ⟨w.heap.size + 2, 0, none⟩ (.slice none 0 0)).setCell ⟨w.heap.size + 2, 1, none⟩ (.slice none 0 0)).setCell ⟨w.heap.size + 2, 2, none⟩ (.slice none 0 0)) (w.heap.size + 2) 35 #[.slice none 0 0, .slice none 0 0, .slice none 0 0]) := ((HM.out.b2.set 0 _).set 1 _).set 2 _
  clear he
  go_wp2_with fail
  clear d0 d1 d2 y0 y1 y2
  generalize World.setCell (World.setCell (World.setCell w1 _ _) _ _) _ _ = wz at *
  have t0 : wz.cell? ⟨w.heap.size + 2, 0, none⟩ = some (.slice none 0 0) := HSY.out.cell 0
  have t1 : wz.cell? ⟨w.heap.size + 2, 1, none⟩ = some (.slice none 0 0) := HSY.out.cell 1
  have t2 : wz.cell? ⟨w.heap.size + 2, 2, none⟩ = some (.slice none 0 0) := HSY.out.cell 2
  exact bodyPost_ret (v := .tuple #[.agg #[.slice none 0 0, .slice none 0 0, .slice none 0 0], .int .i64 0, .int .i64 (zk ns ds F)]) (by simp [results, Tryz.results30, go_sem, t0, t1, t2]) rfl ⟨.inl ⟨HNZ.out, rfl⟩, HBE⟩
 have HFZ := iD he
 have HRT : Hid (uU ns ds F evs 0 = (F, 0)) := rfl
 rw [he]
 clear he
 go_wp2_with fail
 refine xw [(9, 0), (0, 2), (0, 0), (2, 1), (8, 0), (0, 3), (15, 1), (2, 0)] 10 24 (m) (RuR w An Ad nn cn nd cd ns ds F evs m) (by (try dsimp only [gt]); exact ⟨0, 0, _, _, _, _, _, _, _, _, _, F, rfl, rfl, Nat.zero_le _, rfl, Nat.le_refl _, HM, HFZ, HRT⟩) (by kernel_rfl) ?_
 intro u1 p10 p24 gk wr a hrel ha J1 K1 hJ1 hK1
 dsimp only [zi, Go.Proofs.YtepicjpdhpojnaaGreatDoor.v2, Nat.reduceAdd] at ha
 subst ha
 have HFZ0 := iD HFZ.out
 clear HM HFZ HRT w1
 obtain ⟨j, k, n', c', nl', cl', nt', ct', As', Al', At', F', rfl, rfl, hj, rfl, hkj, HM, HFV, HRT⟩ := hrel
 by_cases hlt : j < m; rotate_left
 ·have hii : decide ((j : Int) < (m : Int)) = false := by simp; omega
  have hii2 : decide (j < m) = false := by simp; omega
  have HRL : Hid (oF ns ds F evs = (F', k)) := (rV (by have := HLE.out; omega)).symm.trans HRT.out
  obtain ⟨hs1, hs2, hs3, hs4⟩ := tx HFV.out
  have hln := HM.out.x.ln
  have f0 : wr.cell? ⟨w.heap.size + 1, 0, none⟩ = some (.slice As' n' c') := HM.out.b1.cell 0
  have f1 : wr.cell? ⟨w.heap.size + 1, 1, none⟩ = some (.slice Al' nl' cl') := HM.out.b1.cell 1
  have f2 : wr.cell? ⟨w.heap.size + 1, 2, none⟩ = some (.slice At' nt' ct') := HM.out.b1.cell 2
  go_wp2_with fail
  clear f0 f1 f2 hii hii2
  refine (qC As' Al' At' n' c' nl' cl' nt' ct' F' wr HM.out.x.fd3 (by omega) (by omega) (by omega)).mono ?_
  rintro e w8 ⟨A1, A2, A3, c1, c2, c3, rfl, h1, h2, h3, hb8⟩
  have HM8 := iD (HM.out.later hb8.out)
  have H3 : Hid (Fd3 w8 A1 n' c1 A2 nl' c2 A3 nt' c3 F') := ⟨Sl.of_own h1.out, Sl.of_own h2.out, Sl.of_own h3.out⟩
  clear h1 h2 h3 hb8 HM
  have d0 := HM8.out.b2.cell 0
  have d1 := HM8.out.b2.cell 1
  have d2 := HM8.out.b2.cell 2
  have y0 := HM8.out.b2.frozen 0
  have y1 := HM8.out.b2.frozen 1
  have y2 := HM8.out.b2.frozen 2
  have HBE : Hid (Below w.heap.size w (((w8.setCell ⟨w.heap.size + 2, 0, none⟩ (.slice A1 n' c1)).setCell ⟨w.heap.size + 2, 1, none⟩ (.slice A2 nl' c2)).setCell ⟨w.heap.size + 2, 2, none⟩ (.slice A3 nt' c3))) := ((HM8.out.bl.setCell (by simp) _).setCell (by simp) _).setCell (by simp) _
  have HSY : Hid (Blk (((w8.setCell ⟨w.heap.size + 2, 0, none⟩ (.slice A1 n' c1)).setCell ⟨w.heap.size + 2, 1, none⟩ (.slice A2 nl' c2)).setCell ⟨w.heap.size + 2, 2, none⟩ (.slice A3 nt' c3)) (w.heap.size + 2) 35 #[.slice A1 n' c1, .slice A2 nl' c2, .slice A3 nt' c3]) := ((HM8.out.b2.set 0 _).set 1 _).set 2 _
  have H3E := iD (H3.out.put3 (A1 := A1) (n1 := n') (c1 := c1) (A2 := A2) (n2 := nl') (c2 := c2) (A3 := A3) (n3 := nt') (c3 := c3) HM8.out.b2)
  clear H3
  go_wp2_with fail
  clear d0 d1 d2 y0 y1 y2
  generalize World.setCell (World.setCell (World.setCell w8 _ _) _ _) _ _ = wz at *
  have t0 : wz.cell? ⟨w.heap.size + 2, 0, none⟩ = some (.slice A1 n' c1) := HSY.out.cell 0
  have t1 : wz.cell? ⟨w.heap.size + 2, 1, none⟩ = some (.slice A2 nl' c2) := HSY.out.cell 1
  have t2 : wz.cell? ⟨w.heap.size + 2, 2, none⟩ = some (.slice A3 nt' c3) := HSY.out.cell 2
  exact bodyPost_ret (v := .tuple #[.agg #[.slice A1 n' c1, .slice A2 nl' c2, .slice A3 nt' c3], .int .i64 k, .int .i64 0]) (by simp [results, Tryz.results30, go_sem, t0, t1, t2]) rfl ⟨.inr ⟨HFZ0.out, A1, A2, A3, n', c1, nl', c2, nt', c3, by rw [HRL.out], by rw [HRL.out]; exact H3E⟩, HBE⟩
 obtain ⟨be, oe, x, hAe, hbe, hx, hc⟩ := (HE.out.below HM.out.bl lR).at (fun _ => rfl) (by decide) hlt
 have HX := iD hx
 obtain ⟨ek, ed, ep, eq⟩ := x
 have c0 : wr.cell? ⟨be, oe + j * 4, none⟩ = some (.int .i64 ek) := hc 0 _ rfl
 have c1 : wr.cell? ⟨be, oe + j * 4 + 1, none⟩ = some (.int .i64 ed) := hc 1 _ rfl
 have c2 : wr.cell? ⟨be, oe + j * 4 + 2, none⟩ = some (.int .i64 ep) := hc 2 _ rfl
 have c3 : wr.cell? ⟨be, oe + j * 4 + 3, none⟩ = some (.int .i64 eq) := hc 3 _ rfl
 subst hAe
 clear hc hx
 go_upto_region 8 with (fail)
 clear c0 c1 c2 c3 hbe
 have HBK := iD (Blk.new wr 44 #[.int .i64 ek, .int .i64 ed, .int .i64 ep, .int .i64 eq])
 have HMN := iD (HM.out.later ((Below.refl _ wr).alloc lR (.cells #[.int .i64 ek, .int .i64 ed, .int .i64 ep, .int .i64 eq] 44)))
 clear HM
 generalize World.alloc wr _ = V at *
 obtain ⟨bq, hbq⟩ : ∃ bq, bq = wr.heap.size := ⟨_, rfl⟩
 rw [← hbq] at HBK ⊢
 clear hbq
 have k0 : V.cell? ⟨w.heap.size, 0, none⟩ = some (.slice An nn cn) := HMN.out.b0.cell 0
 have k1 : V.cell? ⟨w.heap.size, 1, none⟩ = some (.slice Ad nd cd) := HMN.out.b0.cell 1
 have f0 := HMN.out.b1.cell 0
 have f1 := HMN.out.b1.cell 1
 have f2 := HMN.out.b1.cell 2
 have e0 := HBK.out.cell 0
 have e1 := HBK.out.cell 1
 have e2 := HBK.out.cell 2
 have e3 := HBK.out.cell 3
 go_wp2_with fail
 clear k0 k1 f0 f1 f2 e0 e1 e2 e3
 refine (vm An Ad As' Al' At' nn cn nd cd n' c' nl' cl' nt' ct' ns ds F' ek ed ep eq V HMN.out.x).mono ?_
 intro e w5 hpost
 obtain ⟨A1, A2, A3, n1, c1, n2, c2, n3, c3, rfl, h2, hb5⟩ := hpost.any
 have HM5 := iD (HMN.out.later hb5.out)
 have H35 : Hid (zR ns ds F' ek ed ep eq = 0 → Fd3 w5 A1 n1 c1 A2 n2 c2 A3 n3 c3 (yu ds F' ek ed ep eq)) := fun e => by
  obtain ⟨i1, i2, i3⟩ := h2.out e
  exact ⟨Sl.of_own i1, Sl.of_own i2, Sl.of_own i3⟩
 clear hpost h2 hb5 HMN HBK
 obtain ⟨E, hE⟩ : ∃ E, E = zR ns ds F' ek ed ep eq := ⟨_, rfl⟩
 rw [← hE] at H35 ⊢
 have HEE := iD hE
 clear hE
 go_upto_region 9 with (fail)
 have HMA := iD (HM5.out.later ((Below.refl _ w5).alloc lR (.cells #[.slice A1 n1 c1, .slice A2 n2 c2, .slice A3 n3 c3] 35)))
 have HBA := iD (Blk.new w5 35 #[.slice A1 n1 c1, .slice A2 n2 c2, .slice A3 n3 c3])
 have H3A : Hid (E = 0 → Fd3 (w5.alloc (.cells #[.slice A1 n1 c1, .slice A2 n2 c2, .slice A3 n3 c3] 35)) A1 n1 c1 A2 n2 c2 A3 n3 c3 (yu ds F' ek ed ep eq)) := fun e => yE (H35.out e) ((Below.refl _ _).alloc lR _)
 clear HM5 H35
 generalize World.alloc w5 _ = w6 at *
 obtain ⟨xb, hxb⟩ : ∃ xb, xb = w5.heap.size := ⟨_, rfl⟩
 rw [← hxb] at HBA ⊢
 clear hxb
 by_cases hE0 : E = 0
 ·subst hE0
  have HRN := iD (qV HRT.out HX.out HEE.out.symm)
  have HFN := iD (pn HEE.out.symm)
  have HMT := iD (HMA.out.take HLW.out (H3A.out rfl))
  have b0 := HBA.out.cell 0
  have b1 := HBA.out.cell 1
  have b2 := HBA.out.cell 2
  have d0 := HMA.out.b1.cell 0
  have d1 := HMA.out.b1.cell 1
  have d2 := HMA.out.b1.cell 2
  have y0 := HMA.out.b1.frozen 0
  have y1 := HMA.out.b1.frozen 1
  have y2 := HMA.out.b1.frozen 2
  clear HMA HBA H3A
  go_wp2_with fail
  clear b0 b1 b2 d0 d1 d2 y0 y1 y2
  generalize World.setCell (World.setCell (World.setCell w6 _ _) _ _) _ _ = w7 at *
  refine Handed.intro (m - (j + 1)) (by omega) (hJ1 _ _ _ (uP.back 10 24 ?_ (by kernel_rfl)))
  dsimp only [gt]
  exact ⟨j + 1, k + 1, _, _, _, _, _, _, _, _, _, _, by go_num, by go_num, by omega, rfl, by omega, HMT, HFN, HRN⟩
 ·have q0 : (E == 0) = false := by simpa using hE0
  have HRN := iD (oE HRT.out HX.out (by rw [← HEE.out]; exact hE0))
  clear hE0
  go_wp2_with fail
  refine Handed.intro (m - (j + 1)) (by omega) (hJ1 _ _ _ (uP.back 10 24 ?_ (by kernel_rfl)))
  dsimp only [gt]
  exact ⟨j + 1, k, _, _, _, _, _, _, _, _, _, F', rfl, by go_num, by omega, rfl, by omega, HMA, HFV, HRN⟩
end
section
open Go.RowKit
def FyG (H : Nat) (j : Nat) (γ : ug) (v : Value) (w : World) : Prop := match j with
 | 6 => v = .tuple #[γ.1, .int .i64 γ.2.1]
 | 7 => v = .tuple #[γ.1, .int .i64 γ.2.1]
 | 8 => v = γ.1
 | 9 => v = .int .i64 γ.2.1
 | 10 => ∃ x, v = .pointer (some ⟨x, 0, none⟩) ∧ Blk w x 35 γ.2.2 ∧ H ≤ x
 | _ => True
theorem FyG.later {H j : Nat} {γ : ug} {v : Value} {w w' : World} (h : FyG H j γ v w) (hb : Below w.heap.size w w') : FyG H j γ v w' := by
 unfold FyG at h ⊢
 split at h
 iterate 4 exact h
 ·obtain ⟨x, h1, h2, h3⟩ := h; exact ⟨x, h1, h2.below hb h2.lt, h3⟩
 ·exact h
theorem FyG.step {H j : Nat} {γ : ug} {l : Array Bool} {u v : Value} {E : Int} {w : World} (hf : zj l 6 = false) (ho : zj l 7 = false ∧ zj l 8 = false ∧ zj l 9 = false ∧ zj l 11 = false) (hj : zj l j = true) (h : FyG H j γ u w) : FyG H j (v, E, γ.2.2) u w := by
 unfold FyG at h ⊢
 split at h
 ·rw [hf] at hj; cases hj
 ·rw [ho.1] at hj; cases hj
 ·rw [ho.2.1] at hj; cases hj
 ·rw [ho.2.2.1] at hj; cases hj
 ·exact h
 ·exact h
theorem FyG.put {H j x : Nat} {w : World} {B1 B2 B3 : Option Addr} {m1 d1 m2 d2 m3 d3 : Nat} {γ : ug} {vs : Nat → Value} {u v z : Value} {cs : Array Value} (h9 : vs 10 = .pointer (some ⟨x, 0, none⟩)) (hb : Blk w x 35 #[.slice B1 m1 d1, .slice B2 m2 d2, .slice B3 m3 d3]) (hx : H ≤ x) (hc : cs = #[u, v, z]) (h : FyG H j γ (vs j) w) : FyG H j (γ.1, γ.2.1, cs) (vs j) (((w.setCell ⟨x, 0, none⟩ u).setCell ⟨x, 1, none⟩ v).setCell ⟨x, 2, none⟩ z) := by
 subst hc
 unfold FyG at h ⊢
 split at h
 iterate 4 exact h
 ·exact ⟨x, h9, ((hb.set 0 u).set 1 v).set 2 z, hx⟩
 ·exact h
def RuN (ns : List Nd) (ds : List Dv) (F : Fd) (k d p q : Int) (v : Value) (E : Int) (w : World) : Prop :=
 E = zR ns ds F k d p q ∧ ∃ (A1 A2 A3 : Option Addr) (n1 c1 n2 c2 n3 c3 : Nat), v = .agg #[.slice A1 n1 c1, .slice A2 n2 c2, .slice A3 n3 c3] ∧ (E = 0 → Fd3 w A1 n1 c1 A2 n2 c2 A3 n3 c3 (yu ds F k d p q))
structure FyB (w1 : World) (ns : List Nd) (ds : List Dv) (F : Fd) (ek ed ep eq : Int) (l : Array Bool) (γ : ug) (W : World) : Prop where
 m : Below w1.heap.size w1 W
 k : zj l 6 = true → RuN ns ds F ek ed ep eq γ.1 γ.2.1 W
 z : zj l 11 = false → γ.2.2 = #[.slice none 0 0, .slice none 0 0, .slice none 0 0]
 f : zj l 11 = true → γ.1 = .agg γ.2.2
 o : zj l 6 = false → zj l 7 = false ∧ zj l 8 = false ∧ zj l 9 = false ∧ zj l 11 = false
 o9 : zj l 10 = false → zj l 11 = false
section
variable {w1 : World} {ns : List Nd} {ds : List Dv} {F : Fd} {ek ed ep eq : Int} {l : Array Bool} {γ : ug} {W W' : World}
theorem RuN.later {v : Value} {E : Int} (h : RuN ns ds F ek ed ep eq v E W) (hb : Below W.heap.size W W') : RuN ns ds F ek ed ep eq v E W' := by
 obtain ⟨h0, A1, A2, A3, n1, c1, n2, c2, n3, c3, h1, h2⟩ := h
 exact ⟨h0, A1, A2, A3, n1, c1, n2, c2, n3, c3, h1, fun e => yE (h2 e) hb⟩
theorem FyB.keep {i : Nat} (h : FyB w1 ns ds F ek ed ep eq l γ W) (h9s : i < l.size) (h5 : i ≠ 6) (h10 : i ≠ 11) (ho : zj l 6 = true ∨ (i ≠ 7 ∧ i ≠ 8 ∧ i ≠ 9)) (hb : Below W.heap.size W W') : FyB w1 ns ds F ek ed ep eq (l.setIfInBounds i true) γ W' := by
 refine ⟨h.m.trans (hb.mono h.m.size), fun e => (h.k ?_).later hb, fun e => h.z ?_, fun e => h.f ?_, fun e => ?_, fun e => ?_⟩
 ·rwa [zh (Ne.symm h5)] at e
 ·rwa [zh (Ne.symm h10)] at e
 ·rwa [zh (Ne.symm h10)] at e
 ·rw [zh (Ne.symm h5)] at e
  rcases ho with ho | ⟨h6, h7, h8⟩
  ·rw [e] at ho; cases ho
  ·rw [zh (Ne.symm h6), zh (Ne.symm h7), zh (Ne.symm h8), zh (Ne.symm h10)]
   exact h.o e
 ·rw [zh (Ne.symm h10)]
  by_cases h9 : i = 10
  ·subst h9; rw [x6 h9s] at e; cases e
  ·rw [zh (Ne.symm h9)] at e; exact h.o9 e
theorem FyB.call {v : Value} {E : Int} (hB : FyB w1 ns ds F ek ed ep eq l γ W) (hs : 6 < l.size) (hf : zj l 6 = false) (hb : Below W.heap.size W W') (hN : RuN ns ds F ek ed ep eq v E W') : FyB w1 ns ds F ek ed ep eq (l.setIfInBounds 6 true) (v, E, γ.2.2) W' :=
 ⟨hB.m.trans (hb.mono hB.m.size), fun _ => hN, fun e => hB.z (by rwa [zh (by decide)] at e), fun e => absurd e (by rw [zh (by decide), (hB.o hf).2.2.2]; decide), fun e => absurd e (by rw [x6 hs]; decide), fun e => (zh (by decide)).trans (hB.o9 ((zh (by decide)).symm.trans e))⟩
theorem FyB.put {u0 u1 u2 : Value} (_hB : FyB w1 ns ds F ek ed ep eq l γ W) (hs : 11 < l.size) (h5 : zj l 6 = true) (h9 : zj l 10 = true) (hv : γ.1 = .agg #[u0, u1, u2]) (hm : Below w1.heap.size w1 W') (hN : RuN ns ds F ek ed ep eq γ.1 γ.2.1 W') : FyB w1 ns ds F ek ed ep eq (l.setIfInBounds 11 true) (γ.1, γ.2.1, #[u0, u1, u2]) W' :=
 ⟨hm, fun _ => hN, fun e => absurd e (by rw [x6 hs]; decide), fun _ => hv, fun e => absurd e (by rw [zh (by decide), h5]; decide), fun e => absurd e (by rw [zh (by decide), h9]; decide)⟩
end
theorem RuN.of {As Al At : Option Addr} {ns : List Nd} {ds : List Dv} {F : Fd} {k d p q : Int} {e : Ending} {w w' : World} (hr : sB w ns ds As Al At F k d p q e w') :
 Below w.heap.size w w' ∧ ∃ (v : Value) (E : Int), e = .returned (.tuple #[v, .int .i64 E]) ∧ RuN ns ds F k d p q v E w' := by
 obtain ⟨h1 | ⟨h1, A1, A2, A3, n1, c1, n2, c2, n3, c3, h2, h3, h4⟩, hb⟩ := hr
 ·exact ⟨hb.out, _, _, h1.2, rfl, none, none, none, 0, 0, 0, 0, 0, 0, rfl, fun e => absurd e h1.1⟩
 ·exact ⟨hb.out, _, 0, h2, h1.symm, A1, A2, A3, n1, c1, n2, c2, n3, c3, rfl, fun _ => h3.out⟩
theorem l6 (An Ad As Al At Ae : Option Addr) (nn cn nd cd n c nl cl nt ct m cm : Nat) (ns : List Nd) (ds : List Dv) (F : Fd) (evs : List Ev) (w : World) (h : FdM w An Ad As Al At nn cn nd cd n c nl cl nt ct ns ds F) (he : Sl w w.heap.size 4 Ae m cm (evs.flatMap Ev.cells)) :
 Calls Tryz.prog 31 #[.agg #[.slice An nn cn, .slice Ad nd cd], .agg #[.slice As n c, .slice Al nl cl, .slice At nt ct], .slice Ae m cm] w (rE w ns ds F evs) := by
 have HH := iD (RuM.new h)
 have HLW := iD h.la
 have HE := iD he
 have HLE := iD (he.len (fun _ => rfl) (by decide))
 have hml := he.le
 clear h he
 go_enter Tryz.func31, Tryz.ntmps31
 go_upto_region 1 with (fail)
 rw [show w.heap.size + 1 + 1 = w.heap.size + 2 from rfl]
 generalize World.alloc (World.alloc (World.alloc w _) _) _ = W at *
 have k0 : W.cell? ⟨w.heap.size, 0, none⟩ = some (.slice An nn cn) := HH.out.b0.cell 0
 have k1 : W.cell? ⟨w.heap.size, 1, none⟩ = some (.slice Ad nd cd) := HH.out.b0.cell 1
 have f0 := HH.out.b1.cell 0
 have f1 := HH.out.b1.cell 1
 have f2 := HH.out.b1.cell 2
 go_wp2_with fail
 clear k0 k1 f0 f1 f2
 refine (wF An Ad As Al At nn cn nd cd n c nl cl nt ct ns ds F W HH.out.x).mono ?_
 rintro e w1 ⟨rfl, hb1⟩
 have HM := iD (HH.out.later hb1)
 clear hb1 HH
 by_cases he : zk ns ds F = 0; rotate_left
 ·have q : (zk ns ds F != 0) = true := by simpa using he
  have HNZ := iD he
  have d0 := HM.out.b2.cell 0
  have d1 := HM.out.b2.cell 1
  have d2 := HM.out.b2.cell 2
  have y0 := HM.out.b2.frozen 0
  have y1 := HM.out.b2.frozen 1
  have y2 := HM.out.b2.frozen 2
  have HBE : Hid (Below w.heap.size w (((w1.setCell ⟨w.heap.size + 2, 0, none⟩ (.slice none 0 0)).setCell ⟨w.heap.size + 2, 1, none⟩ (.slice none 0 0)).setCell ⟨w.heap.size + 2, 2, none⟩ (.slice none 0 0))) := ((HM.out.bl.setCell (by simp) _).setCell (by simp) _).setCell (by simp) _
  have HSY : Hid (Blk (((w1.setCell ⟨w.heap.size + 2, 0, none⟩ (.slice none 0 0)).setCell ⟨w.heap.size + 2, 1, none⟩ (.slice none 0 0)).setCell ⟨w.heap.size + 2, 2, none⟩ (.slice none 0 0)) (w.heap.size + 2) 35 #[.slice none 0 0, .slice none 0 0, .slice none 0 0]) := ((HM.out.b2.set 0 _).set 1 _).set 2 _
  clear he
  go_wp2_with fail
  clear d0 d1 d2 y0 y1 y2
  generalize World.setCell (World.setCell (World.setCell w1 _ _) _ _) _ _ = wz at *
  have t0 : wz.cell? ⟨w.heap.size + 2, 0, none⟩ = some (.slice none 0 0) := HSY.out.cell 0
  have t1 : wz.cell? ⟨w.heap.size + 2, 1, none⟩ = some (.slice none 0 0) := HSY.out.cell 1
  have t2 : wz.cell? ⟨w.heap.size + 2, 2, none⟩ = some (.slice none 0 0) := HSY.out.cell 2
  exact bodyPost_ret (v := .tuple #[.agg #[.slice none 0 0, .slice none 0 0, .slice none 0 0], .int .i64 0, .int .i64 (zk ns ds F)]) (by simp [results, Tryz.results31, go_sem, t0, t1, t2]) rfl ⟨.inl ⟨HNZ.out, rfl⟩, HBE⟩
 have HFZ := iD he
 have HRT : Hid (uU ns ds F evs 0 = (F, 0)) := rfl
 rw [he]
 clear he
 go_wp2_with fail
 refine xw [(9, 0), (0, 2), (0, 3), (1, 1), (6, 0), (20, 1), (1, 0)] 10 11 (m) (RuR w An Ad nn cn nd cd ns ds F evs m) (by (try dsimp only [gt]); exact ⟨0, 0, _, _, _, _, _, _, _, _, _, F, rfl, rfl, Nat.zero_le _, rfl, Nat.le_refl _, HM, HFZ, HRT⟩) (by kernel_rfl) ?_
 intro u1 p10 p11 gk wr a hrel ha J1 K1 hJ1 hK1
 dsimp only [zi, Go.Proofs.YtepicjpdhpojnaaGreatDoor.v2, Nat.reduceAdd] at ha
 subst ha
 have HFZ0 := iD HFZ.out
 clear HM HFZ HRT w1
 obtain ⟨j, k, n', c', nl', cl', nt', ct', As', Al', At', F', rfl, rfl, hj, rfl, hkj, HM, HFV, HRT⟩ := hrel
 by_cases hlt : j < m; rotate_left
 ·have hii : decide ((j : Int) < (m : Int)) = false := by simp; omega
  have hii2 : decide (j < m) = false := by simp; omega
  have HRL : Hid (oF ns ds F evs = (F', k)) := (rV (by have := HLE.out; omega)).symm.trans HRT.out
  have f0 : wr.cell? ⟨w.heap.size + 1, 0, none⟩ = some (.slice As' n' c') := HM.out.b1.cell 0
  have f1 : wr.cell? ⟨w.heap.size + 1, 1, none⟩ = some (.slice Al' nl' cl') := HM.out.b1.cell 1
  have f2 : wr.cell? ⟨w.heap.size + 1, 2, none⟩ = some (.slice At' nt' ct') := HM.out.b1.cell 2
  have d0 := HM.out.b2.cell 0
  have d1 := HM.out.b2.cell 1
  have d2 := HM.out.b2.cell 2
  have y0 := HM.out.b2.frozen 0
  have y1 := HM.out.b2.frozen 1
  have y2 := HM.out.b2.frozen 2
  have HBE : Hid (Below w.heap.size w (((wr.setCell ⟨w.heap.size + 2, 0, none⟩ (.slice As' n' c')).setCell ⟨w.heap.size + 2, 1, none⟩ (.slice Al' nl' cl')).setCell ⟨w.heap.size + 2, 2, none⟩ (.slice At' nt' ct'))) := ((HM.out.bl.setCell (by simp) _).setCell (by simp) _).setCell (by simp) _
  have HSY : Hid (Blk (((wr.setCell ⟨w.heap.size + 2, 0, none⟩ (.slice As' n' c')).setCell ⟨w.heap.size + 2, 1, none⟩ (.slice Al' nl' cl')).setCell ⟨w.heap.size + 2, 2, none⟩ (.slice At' nt' ct')) (w.heap.size + 2) 35 #[.slice As' n' c', .slice Al' nl' cl', .slice At' nt' ct']) := ((HM.out.b2.set 0 _).set 1 _).set 2 _
  have H3E := iD (HM.out.x.fd3.put3 (A1 := As') (n1 := n') (c1 := c') (A2 := Al') (n2 := nl') (c2 := cl') (A3 := At') (n3 := nt') (c3 := ct') HM.out.b2)
  go_wp2_with fail
  clear f0 f1 f2 d0 d1 d2 y0 y1 y2 hii hii2
  generalize World.setCell (World.setCell (World.setCell wr _ _) _ _) _ _ = wz at *
  have t0 : wz.cell? ⟨w.heap.size + 2, 0, none⟩ = some (.slice As' n' c') := HSY.out.cell 0
  have t1 : wz.cell? ⟨w.heap.size + 2, 1, none⟩ = some (.slice Al' nl' cl') := HSY.out.cell 1
  have t2 : wz.cell? ⟨w.heap.size + 2, 2, none⟩ = some (.slice At' nt' ct') := HSY.out.cell 2
  exact bodyPost_ret (v := .tuple #[.agg #[.slice As' n' c', .slice Al' nl' cl', .slice At' nt' ct'], .int .i64 k, .int .i64 0]) (by simp [results, Tryz.results31, go_sem, t0, t1, t2]) rfl ⟨.inr ⟨HFZ0.out, As', Al', At', n', c', nl', cl', nt', ct', by rw [HRL.out], by rw [HRL.out]; exact H3E⟩, HBE⟩
 obtain ⟨be, oe, x, hAe, hbe, hx, hc⟩ := (HE.out.below HM.out.bl lR).at (fun _ => rfl) (by decide) hlt
 have HX := iD hx
 obtain ⟨ek, ed, ep, eq⟩ := x
 have c0 : wr.cell? ⟨be, oe + j * 4, none⟩ = some (.int .i64 ek) := hc 0 _ rfl
 have c1 : wr.cell? ⟨be, oe + j * 4 + 1, none⟩ = some (.int .i64 ed) := hc 1 _ rfl
 have c2 : wr.cell? ⟨be, oe + j * 4 + 2, none⟩ = some (.int .i64 ep) := hc 2 _ rfl
 have c3 : wr.cell? ⟨be, oe + j * 4 + 3, none⟩ = some (.int .i64 eq) := hc 3 _ rfl
 have HLC := iD (And.intro c0 (And.intro c1 (And.intro c2 c3)))
 have hbw : be < wr.heap.size := by have := HM.out.bl.size; omega
 subst hAe
 clear hc hx c0 c1 c2 c3 hbe
 go_upto_region 8 with (fail)
 refine wC (S := fun W' => Below wr.heap.size wr W') (J := []) (n := _) ((0, true) :: (1, true) :: (2, true) :: (3, true) :: (4, true) :: (5, true) :: []) ((12, true) :: []) (lL [(6, []), (7, [6]), (8, [6, 7]), (9, [6, 7]), (10, []), (11, [6, 8, 10])]) 6 #[true, true, true, true, true, true, false, false, false, false, false, false, false] #[true, true, true, true, true, true, true, true, true, true, true, true, false] (by as_aux_lemma => kernel_rfl) (by rfl) (zM (k := 3) (by go_simp; rfl) (zM (k := 4) (by go_simp; rfl) (zM (k := 2) (by go_simp; rfl) (zM (k := 11) (by go_simp; rfl) yH)))) ?_ (fun _ _ _ _ _ h => h) (fun Q2 A hsz hbase hn2 AA => ?_)
 ·exact (Below.refl _ _).drew
 try dsimp only at AA
 obtain ⟨b3, b4, b2, b11, -⟩ := hbase
 refine ⟨k9 A [(6, 34), (7, 27), (8, 35), (9, 36), (10, 12)] [(33, .agg #[.int .i64 ek, .int .i64 ed, .int .i64 ep, .int .i64 eq]), (32, .pointer (some ⟨be, oe + j * 4, none⟩)), (31, .int .i64 j), (30, .slice (some ⟨be, oe, none⟩) m cm), (29, .agg #[.slice As' n' c', .slice Al' nl' cl', .slice At' nt' ct']), (28, .agg #[.slice An nn cn, .slice Ad nd cd])] 13 (FyB wr ns ds F' ek ed ep eq) (FyG wr.heap.size), ?_, ?_, ?_⟩
 ·refine oT 0 28 ?_ rfl rfl (zB rfl) AA (fun ρ AB w hSw => ?_) ?_
  rotate_left
  ·(have e3 := tm AB hsz 3 rfl (zF b3); clear AB; (try dsimp only at hSw); have k0 := (HM.out.later hSw).b0.cell 0; have k1 := (HM.out.later hSw).b0.cell 1; clear hSw; go_simp; try with_reducible rfl)
  refine oT 1 29 ?_ rfl rfl (zB rfl) AA (fun ρ AB w hSw => ?_) ?_
  rotate_left
  ·(have e4 := tm AB hsz 4 rfl (zC rfl (zF b4)); clear AB; (try dsimp only at hSw); have k0 := (HM.out.later hSw).b1.cell 0; have k1 := (HM.out.later hSw).b1.cell 1; have k2 := (HM.out.later hSw).b1.cell 2; clear hSw; go_simp; try with_reducible rfl)
  refine oM 2 30 ?_ rfl rfl rfl (zB rfl) AA (fun ρ AB => ?_) ?_
  rotate_left
  ·(have e2 := tm AB hsz 2 rfl (zC rfl (zC rfl (zF b2))); exact e2)
  refine oM 3 31 ?_ rfl rfl rfl (zB rfl) AA (fun ρ AB => ?_) ?_
  rotate_left
  ·(have e11 := tm AB hsz 11 rfl (zC rfl (zC rfl (zC rfl (zF b11)))); exact e11)
  refine oT 4 32 ?_ rfl rfl (zB rfl) AA (fun ρ AB w hSw => ?_) ?_
  rotate_left
  ·(have e30 := tm AB hsz 30 rfl (zC rfl zA); have e31 := tm AB hsz 31 rfl zA; clear AB; (try dsimp only at hSw); go_simp; try with_reducible rfl)
  refine oT 5 33 ?_ rfl rfl (zB rfl) AA (fun ρ AB w hSw => ?_) ?_
  rotate_left
  ·(have e32 := tm AB hsz 32 rfl zA; clear AB; (try dsimp only at hSw); have e0 := (hSw.cell (p := ⟨be, oe + j * 4, none⟩) hbw).trans HLC.out.1; have e1 := (hSw.cell (p := ⟨be, oe + j * 4 + 1, none⟩) hbw).trans HLC.out.2.1; have e2 := (hSw.cell (p := ⟨be, oe + j * 4 + 2, none⟩) hbw).trans HLC.out.2.2.1; have e3 := (hSw.cell (p := ⟨be, oe + j * 4 + 3, none⟩) hbw).trans HLC.out.2.2.2; clear hSw; go_simp; try with_reducible rfl)
  exact s9 (rg (l := #[true, true, true, true, true, true, false, false, false, false, false, false, false]) ((undef, 0, #[.slice none 0 0, .slice none 0 0, .slice none 0 0]) : ug) (by decide) rfl ⟨(Below.refl _ _).drew, fun e => absurd e (by decide), fun _ => rfl, fun e => absurd e (by decide), fun _ => by decide, fun _ => by decide⟩)
 ·intro l i a w0 hg h
  obtain ⟨vs, γ, hl, rfl, hB, hG⟩ := h
  obtain ⟨hf, ds, hm, hds⟩ := tp hg
  clear hg
  simp only [List.mem_cons, Prod.mk.injEq, List.not_mem_nil, or_false] at hm
  rcases hm with ⟨rfl, rfl⟩ | ⟨rfl, rfl⟩ | ⟨rfl, rfl⟩ | ⟨rfl, rfl⟩ | ⟨rfl, rfl⟩ | ⟨rfl, rfl⟩
  ·clear hds
   have HX6 := HM.out.x.later hB.m
   refine vD (d := 34) (vs := #[.agg #[.slice An nn cn, .slice Ad nd cd], .agg #[.slice As' n' c', .slice Al' nl' cl', .slice At' nt' ct'], .agg #[.int .i64 ek, .int .i64 ed, .int .i64 ep, .int .i64 eq]]) rfl rfl rfl rfl (fun ρ AB => ?_) ?_ ?_
   ·(have e28 := tm AB hsz 28 rfl ((yS _ rfl (zC rfl (zC rfl (zC rfl (zC rfl (zC rfl zA))))))); have e29 := tm AB hsz 29 rfl ((yS _ rfl (zC rfl (zC rfl (zC rfl (zC rfl zA)))))); have e33 := tm AB hsz 33 rfl ((yS _ rfl zA)); simp only [List.map_toArray, List.map_cons, List.map_nil, e28, e29, e33])
   ·(intro w; go_simp)
   refine (sJ An Ad As' Al' At' nn cn nd cd n' c' nl' cl' nt' ct' ns ds F' ek ed ep eq w0 HX6).mono ?_
   intro e w6 hr
   obtain ⟨hb6, v, E, rfl, hN⟩ := RuN.of hr
   refine ⟨_, rfl, fun _ => ((hB.call (by omega) hf hb6 hN)).m, yt (γ' := (v, E, γ.2.2)) (by decide) (by decide) hl (by decide) hf (hB.call (by omega) hf hb6 hN) hG (fun j u hj _ h => (FyG.step hf (hB.o hf) hj h).later hb6) (rfl)⟩
  ·have f6 : zj l 6 = true := hds 6 (by simp)
   have G6 := hG 6 f6 (by decide)
   clear hds
   have h5 : vs 6 = .tuple #[γ.1, .int .i64 γ.2.1] := G6
   refine yc (d := 27) (v := ?_) (w' := ?_) rfl rfl rfl (fun ρ AB => ?_) ?_
   rotate_left 2
   ·(have e34 := tm AB hsz 34 rfl ((zy (i := 6) f6 _ (by decide) (by decide)).trans h5); clear AB; go_simp; first | with_reducible rfl | (constructor <;> with_reducible rfl))
   exact ⟨fun _ => ((hB.keep (i := 7) (by omega) (by decide) (by decide) (.inl f6) bR)).m, yt (γ' := γ) (by decide) (by decide) hl (by decide) hf (hB.keep (i := 7) (by omega) (by decide) (by decide) (.inl f6) bR) hG (fun j u _ _ h => h) (rfl)⟩
  ·have f6 : zj l 6 = true := hds 6 (by simp)
   have f7 : zj l 7 = true := hds 7 (by simp)
   have G6 := hG 6 f6 (by decide)
   have G7 := hG 7 f7 (by decide)
   clear hds
   have h6 : vs 7 = .tuple #[γ.1, .int .i64 γ.2.1] := G7
   refine yc (d := 35) (v := ?_) (w' := ?_) rfl rfl rfl (fun ρ AB => ?_) ?_
   rotate_left 2
   ·(have e27 := tm AB hsz 27 rfl ((zy (i := 7) f7 _ (by decide) (by decide)).trans h6); clear AB; go_simp; first | with_reducible rfl | (constructor <;> with_reducible rfl))
   exact ⟨fun _ => ((hB.keep (i := 8) (by omega) (by decide) (by decide) (.inl f6) bR)).m, yt (γ' := γ) (by decide) (by decide) hl (by decide) hf (hB.keep (i := 8) (by omega) (by decide) (by decide) (.inl f6) bR) hG (fun j u _ _ h => h) (rfl)⟩
  ·have f6 : zj l 6 = true := hds 6 (by simp)
   have f7 : zj l 7 = true := hds 7 (by simp)
   have G6 := hG 6 f6 (by decide)
   have G7 := hG 7 f7 (by decide)
   clear hds
   have h6 : vs 7 = .tuple #[γ.1, .int .i64 γ.2.1] := G7
   refine yc (d := 36) (v := ?_) (w' := ?_) rfl rfl rfl (fun ρ AB => ?_) ?_
   rotate_left 2
   ·(have e27 := tm AB hsz 27 rfl ((zy (i := 7) f7 _ (by decide) (by decide)).trans h6); clear AB; go_simp; first | with_reducible rfl | (constructor <;> with_reducible rfl))
   exact ⟨fun _ => ((hB.keep (i := 9) (by omega) (by decide) (by decide) (.inl f6) bR)).m, yt (γ' := γ) (by decide) (by decide) hl (by decide) hf (hB.keep (i := 9) (by omega) (by decide) (by decide) (.inl f6) bR) hG (fun j u _ _ h => h) (rfl)⟩
  ·clear hds
   refine yc (d := 12) (v := ?_) (w' := ?_) rfl rfl rfl (fun ρ AB => ?_) ?_
   rotate_left 2
   ·(skip; clear AB; go_simp; first | with_reducible rfl | (constructor <;> with_reducible rfl))
   exact ⟨fun _ => ((hB.keep (i := 10) (by omega) (by decide) (by decide) (.inr (by decide)) ((Below.refl _ _).alloc lR _))).m, yt (γ' := γ) (by decide) (by decide) hl (by decide) hf (hB.keep (i := 10) (by omega) (by decide) (by decide) (.inr (by decide)) ((Below.refl _ _).alloc lR _)) hG (fun j u _ _ h => h.later ((Below.refl _ _).alloc lR _)) (⟨w0.heap.size, rfl, by rw [hB.z (hB.o9 hf)]; exact Blk.new _ _ _, hB.m.size⟩)⟩
  ·have f6 : zj l 6 = true := hds 6 (by simp)
   have f8 : zj l 8 = true := hds 8 (by simp)
   have f10 : zj l 10 = true := hds 10 (by simp)
   have G6 := hG 6 f6 (by decide)
   have G8 := hG 8 f8 (by decide)
   have G10 := hG 10 f10 (by decide)
   clear hds
   obtain ⟨hE0, As2, Al2, At2, n2, c2, nl2, cl2, nt2, ct2, hv, hN2⟩ := hB.k f6
   obtain ⟨x, h9, hx, hxl⟩ := G10
   have h7 : vs 8 = .agg #[.slice As2 n2 c2, .slice Al2 nl2 cl2, .slice At2 nt2 ct2] := Eq.trans G8 hv
   rw [hB.z hf] at hx
   have k0 := hx.cell 0
   have k1 := hx.cell 1
   have k2 := hx.cell 2
   have z0 := hx.frozen 0
   have z1 := hx.frozen 1
   have z2 := hx.frozen 2
   refine qs rfl rfl rfl (w' := ((w0.setCell ⟨x, 0, none⟩ (.slice As2 n2 c2)).setCell ⟨x, 1, none⟩ (.slice Al2 nl2 cl2)).setCell ⟨x, 2, none⟩ (.slice At2 nt2 ct2)) (fun ρ AB => ?_) ?_
   ·(have e12 := tm AB hsz 12 rfl ((zy (i := 10) f10 _ (by decide) (by decide)).trans h9); have e35 := tm AB hsz 35 rfl ((zy (i := 8) f8 _ (by decide) (by decide)).trans h7); clear AB; clear hv h7 h9 hG G6 G8; go_simp)
   clear k0 k1 k2 z0 z1 z2
   have hM3 : Below wr.heap.size wr (((w0.setCell ⟨x, 0, none⟩ (.slice As2 n2 c2)).setCell ⟨x, 1, none⟩ (.slice Al2 nl2 cl2)).setCell ⟨x, 2, none⟩ (.slice At2 nt2 ct2)) := ((hB.m.setCell (by simp; omega) _).setCell (by simp; omega) _).setCell (by simp; omega) _
   have hN3 : RuN ns ds F' ek ed ep eq γ.1 γ.2.1 (((w0.setCell ⟨x, 0, none⟩ (.slice As2 n2 c2)).setCell ⟨x, 1, none⟩ (.slice Al2 nl2 cl2)).setCell ⟨x, 2, none⟩ (.slice At2 nt2 ct2)) := ⟨hE0, As2, Al2, At2, n2, c2, nl2, cl2, nt2, ct2, hv, fun e => (hN2 e).put3 hx⟩
   have hB3 := hB.put (by omega) f6 f10 hv hM3 hN3
   clear hM3 hN3
   exact ⟨fun _ => ((hB3)).m, rf (γ' := (γ.1, γ.2.1, #[.slice As2 n2 c2, .slice Al2 nl2 cl2, .slice At2 nt2 ct2])) (by decide) hl (hB3) hG (fun j _ _ h => FyG.put h9 hx hxl rfl h)⟩
 intro a w0 h
 obtain ⟨vs, γ, -, rfl, hB, hG⟩ := h
 show wpOrd _ _ _ _ _ _ (ze A ((34, vs 6) :: (27, vs 7) :: (35, vs 8) :: (36, vs 9) :: (12, vs 10) :: [(33, .agg #[.int .i64 ek, .int .i64 ed, .int .i64 ep, .int .i64 eq]), (32, .pointer (some ⟨be, oe + j * 4, none⟩)), (31, .int .i64 j), (30, .slice (some ⟨be, oe, none⟩) m cm), (29, .agg #[.slice As' n' c', .slice Al' nl' cl', .slice At' nt' ct']), (28, .agg #[.slice An nn cn, .slice Ad nd cd])])) _
 replace AA : (fun W' => Below wr.heap.size wr W') w0 := (hB).m
 have h8 : vs 9 = .int .i64 γ.2.1 := hG 9 rfl (by decide)
 obtain ⟨x, h9, hx, hxl⟩ := hG 10 rfl (by decide)
 obtain ⟨hE0, As2, Al2, At2, n2, c2, nl2, cl2, nt2, ct2, hv, hN2⟩ := hB.k rfl
 have hzz : γ.2.2 = #[.slice As2 n2 c2, .slice Al2 nl2 cl2, .slice At2 nt2 ct2] := by have h1 := hB.f rfl; rw [hv] at h1; injection h1 with h1; exact h1.symm
 rw [hzz] at hx
 obtain ⟨v6, hv6⟩ : ∃ v, v = vs 6 := ⟨_, rfl⟩
 obtain ⟨v7, hv7⟩ : ∃ v, v = vs 7 := ⟨_, rfl⟩
 obtain ⟨v8, hv8⟩ : ∃ v, v = vs 8 := ⟨_, rfl⟩
 obtain ⟨E, hE⟩ : ∃ E, E = γ.2.1 := ⟨_, rfl⟩
 rw [← hE] at h8 hE0 hN2
 rw [h8, h9, ← hv6, ← hv7, ← hv8]
 clear h8 h9 hG hv6 hv7 hv8 hv hzz hE
 have HMA := iD (HM.out.later hB.m)
 have HEE := iD hE0
 have H3A := iD hN2
 have HBA := iD hx
 have hx1 : w.heap.size + 1 < x := Nat.lt_of_lt_of_le HM.out.b1.lt hxl
 clear hB hN2 hx vs hE0
 refine oT 12 13 ?_ rfl rfl (zB rfl) AA (fun ρ AB w hSw => ?_) ?_
 rotate_left
 ·(have e36 := tm AB hsz 36 rfl (zC rfl (zC rfl (zC rfl zA))); clear AB; (try dsimp only at hSw); go_simp; try with_reducible rfl)
 refine yG hn2 ?_
 clear AA hn2 b3 b4 b2 b11 hsz A Q2
 simp only [yF, zu, yQ, xO, xP]
 clear HM
 by_cases hE0 : E = 0
 ·subst hE0
  have HRN := iD (qV HRT.out HX.out HEE.out.symm)
  have HFN := iD (pn HEE.out.symm)
  have HMT := iD (HMA.out.take HLW.out (H3A.out rfl))
  have b0 := HBA.out.cell 0
  have b1 := HBA.out.cell 1
  have b2 := HBA.out.cell 2
  have d0 := HMA.out.b1.cell 0
  have d1 := HMA.out.b1.cell 1
  have d2 := HMA.out.b1.cell 2
  have y0 := HMA.out.b1.frozen 0
  have y1 := HMA.out.b1.frozen 1
  have y2 := HMA.out.b1.frozen 2
  clear HMA HBA H3A
  go_wp2_with fail
  clear b0 b1 b2 d0 d1 d2 y0 y1 y2
  generalize World.setCell (World.setCell (World.setCell w0 _ _) _ _) _ _ = w7 at *
  refine Handed.intro (m - (j + 1)) (by omega) (hJ1 _ _ _ (uP.back 10 11 ?_ (by kernel_rfl)))
  dsimp only [gt]
  exact ⟨j + 1, k + 1, _, _, _, _, _, _, _, _, _, _, by go_num, by go_num, by omega, rfl, by omega, HMT, HFN, HRN⟩
 ·have q0 : (E == 0) = false := by simpa using hE0
  have HRN := iD (oE HRT.out HX.out (by rw [← HEE.out]; exact hE0))
  clear hE0
  go_wp2_with fail
  refine Handed.intro (m - (j + 1)) (by omega) (hJ1 _ _ _ (uP.back 10 11 ?_ (by kernel_rfl)))
  dsimp only [gt]
  exact ⟨j + 1, k, _, _, _, _, _, _, _, _, _, F', rfl, by go_num, by omega, rfl, by omega, HMA, HFV, HRN⟩
end
section
open Go.RowKit
def vw (w : World) (g n0 : Nat) (e : Ending) (w' : World) : Prop := ∃ (A : Option Addr) (n c : Nat) (l : List Int), e = .returned (.slice A n c) ∧ Hid (zU w' g) ∧ Hid (w.grownBy w' (some g)) ∧ Hid (SlX w' g 1 A n c (zK l)) ∧ n ≤ n0 + 1
theorem vw.of {w W W' : World} {g n0 n c : Nat} {A : Option Addr} {l : List Int} (hw : g < w.heap.size) (ho : zQ W' w.heap.size A n c l) (hd : zU W' g) (hg : w.grownBy W (some g)) (hb : W.grownBy W' (some g)) (hn : n ≤ n0 + 1) : vw w g n0 (.returned (.slice A n c)) W' :=
 ⟨A, n, c, l, rfl, hd, zO hg hb, SlX.of_own ho hw, hn⟩
theorem kt {w : World} {base g tg n c : Nat} {l : List Int} (h : zQ w base (some ⟨tg, 0, none⟩) (n + 1) c l) (hg : g < tg) : SlX w g 1 (uN (some ⟨tg, 0, none⟩) c 1) n (c - 1) (zK (l.drop 1)) := by
 have hs := h.sl
 have hl : l.length = n + 1 := h.len
 obtain ⟨h1, h2, h3, h4, h5⟩ := hs
 have hcut : ∀ b off, uN (some ⟨tg, 0, none⟩) c 1 = some ⟨b, off, none⟩ → b = tg := fun b off e => by
  unfold uN at e
  split at e <;> simp_all [Addr.add]
 refine ⟨⟨?_, by omega, by omega, fun e => ?_, fun h0 => ?_⟩, fun b off e => by have := hcut b off e; omega⟩
 ·rw [xF, List.length_drop]; omega
 ·unfold uN at e
  split at e <;> simp_all
 ·obtain ⟨b, off, e, hb, hc⟩ := h5 (by omega)
  injection e with e
  injection e with e1 e2
  subst e1 e2
  refine ⟨tg, 1, by unfold uN; rw [if_neg (by omega)]; rfl, hb, fun j u hu => ?_⟩
  have := hc (1 + j) u (by
   unfold zK at hu ⊢
   rw [wX, List.getElem?_map] at hu ⊢
   rw [List.getElem?_drop] at hu
   exact hu)
  rwa [Nat.zero_add] at this
theorem ku (g : Nat) (Al Av : Option Addr) (n c m cm : Nat) (l vs : List Int) (w : World) (hd : zU w g) (hs : SlX w g 1 Al n c (zK l)) (hv : SlX w g 1 Av m cm (zK vs)) (hn : n ≤ 1000000) (hm : 0 < m ∧ m ≤ 1000) :
 Calls Tryz.prog 26 #[.pointer (some ⟨g, 0, none⟩), .slice Al n c, .slice Av m cm] w (vw w g n) := by
 have hgl := hd.lt
 have HD := iD hd; have HS := iD hs; have HV := iD hv
 have hle := hs.1.le; have hlv := hv.1.le
 clear hd hs hv
 go_enter Tryz.func26, Tryz.ntmps26
 go_upto_region 2 with (at_builtin; go_must (refine zW rfl _ (.tmp 8) rfl yX (by rfl) (World.ownsRow_nil _ w.heap.size _ _) (by rfl) HS.out.1 (vi _) (by omega) (by omega) (by omega) ?_; intro A1 c1 w1 hown1 hgr1 hat1; simp only [Nat.zero_add, List.nil_append] at hown1 hgr1 ⊢; have HO := iD hown1; have HB := iD (zp hgr1); clear hown1 hgr1 hat1))
 have HD1 := iD (HD.out.below HB.out hgl)
 have HV1 := iD (HV.out.below HB.out)
 have HG1 : Hid (w.grownBy w1 (some g)) := zN HB.out _
 have HO1 : Hid (zQ w1 w.heap.size A1 n c1 l) := HO.out
 have hz1 := HB.out.size
 have hle1 := HO1.out.sl.le
 clear HO HD HV HS HB
 rcases Nat.eq_zero_or_pos n with rfl | hpos
 ·go_wp2_with fail
  refine (zT g m w1 HD1.out (by omega)).mono ?_
  rintro e w2 ⟨k, rfl, r0, r1, r2, hd2, hg2, hs2⟩
  have r3 : k < m := r2.out (by omega)
  obtain ⟨k, rfl⟩ := Int.eq_ofNat_of_zero_le r0
  have hkm : k < m := by omega
  have HO2 : Hid (zQ w2 w.heap.size A1 0 c1 l) := HO1.out.kept hg2.out (zf fun b e => by have := (HO1.out.lt b e).1; omega)
  have HV2 := iD (HV1.out.grown hg2.out)
  have HG2 := iD (zO HG1.out hg2.out)
  have HD2 := iD hd2.out
  have hz2 := hg2.out.size
  clear hd2 hg2 hs2 r1 r2 HO1 HV1 HG1 HD1
  obtain ⟨bv, ov, x, hAv, hbv, hxv, hcv⟩ := HV2.out.1.at1 hkm
  subst hAv
  clear hxv
  go_wp2_with (at_builtin; go_must (refine zW rfl (.tmp 17) (.tmp 25) rfl yX (by rfl) (World.ownsRow.alloc HO2.out _) (by rfl) (Sl.newest (n := 1) (by simp) (by rfl) (by decide)) (by simp [Value.oneCell']) (by omega) (by omega) (by simp; omega) ?_; intro A9 c9 w9 hown9 hgr9 hat9; (try simp only [Act.put, sA, s0, s1]); have HO9 := iD hown9; have HG9 := iD hgr9; clear hown9 hgr9 hat9))
  have HD9 : Hid (zU w9 g) := (HD2.out.alloc _).grown HG9.out (fun b e => by have := (HO2.out.lt b e).1; omega)
  have HGW : Hid (w.grownBy w9 (some g)) := xf (uZ HG2.out _) HG9.out (fun b e => (HO2.out.lt b e).1)
  have HOW : Hid (zQ w9 w.heap.size A9 (0 + 1) c9 (l ++ [x])) := by unfold Hid zQ zK; rw [List.flatMap_append]; exact HO9.out
  go_wp2_with fail
  go_ret
  exact vw.of hgl HOW.out HD9.out HGW.out (y9 _ _) (by omega)
 have hne : ((n : Int) == 0) = false := by simp; omega
 have hne2 : (n == 0) = false := by simp; omega
 go_wp2_with fail
 refine (tu g 5 w1 HD1.out (by decide)).mono ?_
 rintro e w2 ⟨r, rfl, hd2, hg2, hs2⟩
 have HO2 : Hid (zQ w2 w.heap.size A1 n c1 l) := HO1.out.kept hg2.out (zf fun b e => by have := (HO1.out.lt b e).1; omega)
 have HV2 := iD (HV1.out.grown hg2.out)
 have HG2 := iD (zO HG1.out hg2.out)
 have HD2 := iD hd2.out
 have hz2 := hg2.out.size
 clear hd2 hg2 hs2 HO1 HV1 HG1 HD1
 rcases r with _ | _; rotate_left
 ·go_wp2_with fail
  refine (zT g m w2 HD2.out (by omega)).mono ?_
  rintro e w3 ⟨k, rfl, r0, r1, r2, hd3, hg3, hs3⟩
  have r3 : k < m := r2.out (by omega)
  obtain ⟨k, rfl⟩ := Int.eq_ofNat_of_zero_le r0
  have hkm : k < m := by omega
  have HO3 : Hid (zQ w3 w.heap.size A1 n c1 l) := HO2.out.kept hg3.out (zf fun b e => by have := (HO2.out.lt b e).1; omega)
  have HV3 := iD (HV2.out.grown hg3.out)
  have HG3 := iD (zO HG2.out hg3.out)
  have HD3 := iD hd3.out
  have hz3 := hg3.out.size
  clear hd3 hg3 hs3 r1 r2 HO2 HV2 HG2 HD2
  obtain ⟨bv, ov, x, hAv, hbv, hxv, hcv⟩ := HV3.out.1.at1 hkm
  subst hAv
  clear hxv
  go_wp2_with (at_builtin; go_must (refine zW rfl (.tmp 17) (.tmp 25) rfl yX (by rfl) (World.ownsRow.alloc HO3.out _) (by rfl) (Sl.newest (n := 1) (by simp) (by rfl) (by decide)) (by simp [Value.oneCell']) (by omega) (by omega) (by simp; omega) ?_; intro A9 c9 w9 hown9 hgr9 hat9; (try simp only [Act.put, sA, s0, s1]); have HO9 := iD hown9; have HG9 := iD hgr9; clear hown9 hgr9 hat9))
  have HD9 : Hid (zU w9 g) := (HD3.out.alloc _).grown HG9.out (fun b e => by have := (HO3.out.lt b e).1; omega)
  have HGW : Hid (w.grownBy w9 (some g)) := xf (uZ HG3.out _) HG9.out (fun b e => (HO3.out.lt b e).1)
  have HOW : Hid (zQ w9 w.heap.size A9 (n + 1) c9 (l ++ [x])) := by unfold Hid zQ zK; rw [List.flatMap_append]; exact HO9.out
  go_wp2_with fail
  go_ret
  exact vw.of hgl HOW.out HD9.out HGW.out (y9 _ _) (by omega)
 go_wp2_with fail
 refine (tu g 4 w2 HD2.out (by decide)).mono ?_
 rintro e w3 ⟨r, rfl, hd3, hg3, hs3⟩
 have HO3 : Hid (zQ w3 w.heap.size A1 n c1 l) := HO2.out.kept hg3.out (zf fun b e => by have := (HO2.out.lt b e).1; omega)
 have HV3 := iD (HV2.out.grown hg3.out)
 have HG3 := iD (zO HG2.out hg3.out)
 have HD3 := iD hd3.out
 have hz3 := hg3.out.size
 clear hd3 hg3 hs3 HO2 HV2 HG2 HD2
 rcases r with _ | _; rotate_left
 ·obtain ⟨tg, y, rfl, htg, htl, hy, hcy, hfy, hst⟩ := HO3.out.at hpos
  obtain ⟨n, rfl⟩ : ∃ k, n = k + 1 := ⟨n - 1, by omega⟩
  have HR : Hid (SlX w3 g 1 (uN (some ⟨tg, 0, none⟩) c1 1) n (c1 - 1) (zK (l.drop 1))) := kt HO3.out (by omega)
  have hcut : ∀ W, (Instr.sliceAt 22 (.slice (some ⟨tg, 0, none⟩) (n + 1) c1) (some (.int .i64 1)) none none).run Tryz.prog W = .ok (.slice (uN (some ⟨tg, 0, none⟩) c1 1) n (c1 - 1)) W := fun W => uA W _ _ _ 1 (by omega)
  obtain ⟨ad, had⟩ : ∃ ad, ad = uN (some ⟨tg, 0, none⟩) c1 1 := ⟨_, rfl⟩
  rw [← had] at HR
  rw [← had] at hcut
  clear had
  clear hst hy hcy hfy
  go_wp2_with fail
  go_ret
  exact ⟨ad, n, c1 - 1, l.drop 1, rfl, HD3, HG3, HR, by omega⟩
 go_wp2_with fail
 refine (zT g n w3 HD3.out (by omega)).mono ?_
 rintro e w4 ⟨k, rfl, r0, r1, r2, hd4, hg4, hs4⟩
 have r3 : k < n := r2.out (by omega)
 obtain ⟨k, rfl⟩ := Int.eq_ofNat_of_zero_le r0
 have hkn : k < n := by omega
 have HO4 : Hid (zQ w4 w.heap.size A1 n c1 l) := HO3.out.kept hg4.out (zf fun b e => by have := (HO3.out.lt b e).1; omega)
 have HV4 := iD (HV3.out.grown hg4.out)
 have HG4 := iD (zO HG3.out hg4.out)
 have HD4 := iD hd4.out
 have hz4 := hg4.out.size
 clear hd4 hg4 hs4 r0 r1 r2 r3 HO3 HV3 HG3 HD3
 go_wp2_with fail
 refine (zT g m w4 HD4.out (by omega)).mono ?_
 rintro e w5 ⟨k2, rfl, r0, r1, r2, hd5, hg5, hs5⟩
 have r3 : k2 < m := r2.out (by omega)
 obtain ⟨k2, rfl⟩ := Int.eq_ofNat_of_zero_le r0
 have hkm : k2 < m := by omega
 have HO5 : Hid (zQ w5 w.heap.size A1 n c1 l) := HO4.out.kept hg5.out (zf fun b e => by have := (HO4.out.lt b e).1; omega)
 have HV5 := iD (HV4.out.grown hg5.out)
 have HG5 := iD (zO HG4.out hg5.out)
 have HD5 := iD hd5.out
 have hz5 := hg5.out.size
 clear hd5 hg5 hs5 r0 r1 r2 r3 HO4 HV4 HG4 HD4
 obtain ⟨bv, ov, x, hAv, hbv, hxv, hcv⟩ := HV5.out.1.at1 hkm
 obtain ⟨tg, y, hA1, htg, htl, hy, hcy, hfy, hst⟩ := HO5.out.at hkn
 subst hAv
 subst hA1
 have HO6 := iD (hst x)
 have HD6 := iD (HD5.out.setCell (p := ⟨tg, k, none⟩) (by simp; omega) (.int .i64 x))
 have HG6 : Hid (w.grownBy (w5.setCell ⟨tg, k, none⟩ (.int .i64 x)) (some g)) := zg HG5.out (by simp; omega) _
 clear hst hy hxv
 go_wp2_with fail
 go_ret
 exact vw.of hgl HO6.out HD6.out HG6.out (y9 _ _) (by omega)
end
end Go.Proofs.YtepicjpdhpojnaaGreatDoor
