import Derived.Test.YtepicjpdhpojnaaGreatDoorZ39
import Derived.Test.YtepicjpdhpojnaaGreatDoorZ20
import Derived.Test.YtepicjpdhpojnaaGreatDoorZ18
import Derived.Test.YtepicjpdhpojnaaGreatDoorZ30
import Derived.Test.YtepicjpdhpojnaaGreatDoorZ40
import Derived.Test.YtepicjpdhpojnaaGreatDoorZ23
set_option maxRecDepth 100000
set_option maxHeartbeats 16000000
namespace Go.Proofs.YtepicjpdhpojnaaGreatDoor
open Go.RowKit
structure FsM (w : World) (nb : Nat) (An Ad As Al At : Option Addr) (cn nd cd n c nl cl nt ct : Nat) (ns : List Nd) (ds : List Dv) (F : Fd) (Az Am : Option Addr) (nz cz nm cm : Nat) (z : List Int) (ls : List Lk) (wr : World) : Prop where
 m : FlM w nb An Ad As Al At cn nd cd n c nl cl nt ct ns ds F wr
 z : SlX wr w.heap.size 1 Az nz cz (intsV z)
 k : SlX wr w.heap.size 3 Am nm cm (ls.flatMap Lk.cells)
theorem FsM.later {w : World} {nb : Nat} {An Ad As Al At : Option Addr} {cn nd cd n c nl cl nt ct : Nat} {ns : List Nd} {ds : List Dv} {F : Fd} {Az Am : Option Addr} {nz cz nm cm : Nat} {z : List Int} {ls : List Lk} {wr wr' : World} (h : FsM w nb An Ad As Al At cn nd cd n c nl cl nt ct ns ds F Az Am nz cz nm cm z ls wr) (hb : Below wr.heap.size wr wr') : FsM w nb An Ad As Al At cn nd cd n c nl cl nt ct ns ds F Az Am nz cz nm cm z ls wr' :=
 ⟨h.m.later hb, h.z.below hb, h.k.below hb⟩
def FsI (M : World → Prop) (f : Nat → Bool) (n gk : Nat) (bv iv : Value) (wr : World) : Prop := ∃ i : Nat, bv = .bool (f i) ∧ iv = .int .i64 i ∧ i ≤ n ∧ gk = n - i ∧ Hid (M wr)
theorem walk_FieldShows (w : World) (hl : Laid w) (A : Option Addr) (n c : Nat) (zs : List Int) (hs : Sl w w.heap.size 1 A n c (intsV zs)) (_hz : ∀ z ∈ zs, (Lit.int .i64 z).wf = true) :
 Calls Tryz.prog 4 #[.slice A n c] w fun e w' => e = .returned (.bool true) ∧ Below w.heap.size w w' := by
 have hnm := hs.le
 have HL0 := Lib.hid hl; have HS0 := Lib.hid hs
 clear hl hs _hz
 go_enter Tryz.func4, Tryz.ntmps4
 go_wp2_with fail
 refine (awake_any w HL0.out).mono ?_
 rintro e w1 ⟨rfl, hb1⟩
 have HB0 := Lib.hid hb1
 have HL := Lib.hid (HL0.out.below hb1 (Nat.le_refl _))
 have HS := Lib.hid (HS0.out.below hb1 (Nat.le_refl _))
 have hsz := hb1.size
 clear hb1 HL0 HS0
 have HF := Lib.hid (few_any A n c w1 (by omega))
 rcases hf : decide (n ≤ 400) with _ | _
 ·rw [hf] at HF
  clear hf
  go_wp2_with fail
  refine HF.out.mono ?_
  rintro e w2 ⟨rfl, rfl⟩
  go_wp2_with fail
  refine (awake_any w1 HL.out).mono ?_
  rintro e w2 ⟨rfl, hb⟩
  go_wp2_with fail
  go_ret
  exact ⟨rfl, HB0.out.trans (hb.mono hsz)⟩
 rw [hf] at HF
 clear hf
 go_wp2_with fail
 refine HF.out.mono ?_
 rintro e w2 ⟨rfl, rfl⟩
 clear HF
 go_wp2_with fail
 refine (new_any A n c w.heap.size zs w1 HS.out hsz).mono ?_
 rintro e w2 ⟨rfl, hd2, hb2, hs2⟩
 go_wp2_with fail
 refine (start_any w1.heap.size w2 w1 hd2.out (HL.out.below hb2.out (Nat.le_refl _)) HL.out (Nat.le_refl _)).mono ?_
 rintro e w3 ⟨An, Ad, As, Al, At, cn, nd, cd, n0, c0, nl, cl, nt, ct, ns, ds, F, rfl, hg3, hX3, hF3, hn3, hL3⟩
 have HM4 := Lib.hid (FlM.mk0 hb2.out hs2.out hg3.out hX3.out)
 have HF4 := Lib.hid hF3.out
 have HK4 := Lib.hid hL3.out
 obtain ⟨hnd9, hnd10⟩ := hn3.out
 clear hd2 hb2 hs2 hg3 hX3 hF3 hn3 hL3 HS
 go_upto_region 5 with (fail)
 obtain ⟨nb, hnb⟩ : ∃ x, x = w3.heap.size := ⟨_, rfl⟩
 rw [← hnb] at HM4 ⊢
 clear hnb
 generalize World.alloc (World.alloc w3 _) _ = w4 at *
 have HMD := Lib.hid (HM4.out.later (Below.refl _ _).drew)
 have hcn := HM4.out.ln
 refine wp_region_ord (S := fun W' => W'.cell? ⟨nb, 0, none⟩ = some (.slice An 6 cn) ∧ W'.cell? ⟨nb, 1, none⟩ = some (.slice Ad nd cd) ∧ W'.cell? ⟨nb + 1, 1, none⟩ = some (.slice Al nl cl)) (J := []) (n := _) ((0, true) :: (1, true) :: (3, true) :: (4, true) :: (2, false) :: (5, true) :: (6, true) :: []) (by as_aux_lemma => kernel_rfl) (by rfl) (base_cons (k := 3) (by go_simp; rfl) (base_cons (k := 4) (by go_simp; rfl) (base_cons (k := 5) (by go_simp; rfl) base_nil))) ?_ (fun _ _ _ _ _ h => h) (fun Q2 A hsz hbase hn2 hHeld => ?_)
 ·exact ⟨HM4.out.bn.cell 0, HM4.out.bn.cell 1, HM4.out.bf.cell 1⟩
 try dsimp only at hHeld
 obtain ⟨b3, b4, b5, -⟩ := hbase
 refine ord_move (i := 0) (d := 40) (v := ?_) rfl rfl rfl (wanted_none rfl) hHeld (fun ρ hρ => ?_) ?_
 rotate_left
 ·(have e3 := Eq.trans (hρ.tmp hsz 3 rfl) (lkp_base b3); exact e3)
 show wpOrd _ _ _ _ _ _ _ _
 refine ord_take (i := 1) (d := 41) (v := ?_) rfl rfl (wanted_none rfl) hHeld (fun ρ hρ w hSw => ?_) ?_
 rotate_left
 ·(have e4 := Eq.trans (hρ.tmp hsz 4 rfl) (miss1 rfl (lkp_base b4)); clear hρ; (try dsimp only at hSw); have k0 := hSw.1; have k1 := hSw.2.1; clear hSw; go_simp; try with_reducible rfl)
 show wpOrd _ _ _ _ _ _ _ _
 refine ord_take (i := 3) (d := 43) (v := ?_) rfl rfl (wanted_none rfl) hHeld (fun ρ hρ w hSw => ?_) ?_
 rotate_left
 ·(have e5 := Eq.trans (hρ.tmp hsz 5 rfl) (miss1 rfl (miss1 rfl (lkp_base b5))); clear hρ; (try dsimp only at hSw); go_simp; try with_reducible rfl)
 show wpOrd _ _ _ _ _ _ _ _
 refine ord_take (i := 4) (d := 44) (v := ?_) rfl rfl (wanted_none rfl) hHeld (fun ρ hρ w hSw => ?_) ?_
 rotate_left
 ·(have e43 := Eq.trans (hρ.tmp hsz 43 rfl) lkp_hit; clear hρ; (try dsimp only at hSw); have k2 := hSw.2.2; clear hSw; go_simp; try with_reducible rfl)
 show wpOrd _ _ _ _ _ _ _ _
 refine ord_call (i := 2) (d := 42) (vs := ?_) rfl rfl rfl (wanted_none rfl) (fun ρ hρ => ?_) ?_ ?_
 rotate_left
 ·(have e40 := Eq.trans (hρ.tmp hsz 40 rfl) (miss1 rfl (miss1 rfl (miss1 rfl lkp_hit))); have e41 := Eq.trans (hρ.tmp hsz 41 rfl) (miss1 rfl (miss1 rfl lkp_hit)); simp only [List.map_toArray, List.map_cons, List.map_nil, e40, e41]; try with_reducible rfl)
 ·(intro w; go_simp)
 refine (mkzone_any w1.heap.size An Ad 6 cn nd cd w4.drew HMD.out.x.dk (by decide) (by decide)).mono ?_
 rintro e w5 ⟨Az, nz, cz, z, rfl, hd5, hg5, hO5, hz5⟩
 have HM5 := Lib.hid (HMD.out.grown HL.out hg5.out hd5.out)
 have HZ5 : Hid (SlX w5 w1.heap.size 1 Az nz cz (intsV z)) := SlX.of_own hO5.out HMD.out.x.dk.lt
 have HLZ := Lib.hid hO5.out.len
 have HZR := Lib.hid hz5.out
 clear hd5 hg5 hO5 hz5
 refine ⟨_, rfl, fun _ => ?_, fun hHeld' => ?_⟩
 ·exact ⟨HM5.out.bn.cell 0, HM5.out.bn.cell 1, HM5.out.bf.cell 1⟩
 replace hHeld := hHeld' rfl
 clear hHeld'
 try dsimp only at hHeld
 show wpOrd _ _ _ _ _ _ _ _
 refine ord_take (i := 5) (d := 6) (v := ?_) rfl rfl (wanted_none rfl) hHeld (fun ρ hρ w hSw => ?_) ?_
 rotate_left
 ·(have e42 := Eq.trans (hρ.tmp hsz 42 rfl) lkp_hit; clear hρ; (try dsimp only at hSw); go_simp; try with_reducible rfl)
 show wpOrd _ _ _ _ _ _ _ _
 refine ord_take (i := 6) (d := 7) (v := ?_) rfl rfl (wanted_none rfl) hHeld (fun ρ hρ w hSw => ?_) ?_
 rotate_left
 ·(have e44 := Eq.trans (hρ.tmp hsz 44 rfl) (miss1 rfl (miss1 rfl lkp_hit)); clear hρ; (try dsimp only at hSw); go_simp; try with_reducible rfl)
 show wpOrd _ _ _ _ _ _ _ _
 refine ord_done hn2 ?_
 clear hHeld hn2 b3 b4 b5 hsz A Q2
 simp only [puts_nil, puts_cons, put_lit, set_1, set_0]
 clear HM4 HMD
 go_wp2_with fail
 refine (one_any w1.heap.size 3 w5 HM5.out.x.dk (by decide)).mono ?_
 rintro e w6 ⟨r, rfl, hd6, hg6, hs6⟩
 have HM6 := Lib.hid (HM5.out.grown HL.out hg6.out hd6.out)
 have HZ6 := Lib.hid (HZ5.out.grown hg6.out)
 clear hd6 hg6 hs6 HM5 HZ5
 have hck := (stateErr_len (fdErr_zero HF4.out).1).1
 have HOK := Lib.hid (NetOk.of hck)
 have HZE : Hid (zoneErr ns ds z = 0) := zone_fine hck (by rw [HLZ.out]; exact HZR.out.1) (by rw [hcn.1]; exact HZR.out.2.2)
 clear hck
 rcases r with _ | _
 ·have HSM : Hid (FsM w1 nb An Ad As Al At cn nd cd n0 c0 nl cl nt ct ns ds F Az Al nz cz nl cl z F.ls w6) := ⟨HM6.out, HZ6.out, HM6.out.x.hl⟩
  have HLE : Hid (locksErr ns ds F.ls = 0) := (fdErr_zero HF4.out).2.1
  clear HM6 HZ6
  go_upto_region 8 with (fail)
  have HLK : Hid (F.ls.length = nl) := HSM.out.k.1.len (fun _ => rfl) (by decide)
  have hlek := HSM.out.k.1.le
  have hlel := HSM.out.m.x.hl.1.le
  have hlez := HSM.out.z.1.le
  go_upto_region 10 with (fail)
  refine wp_loop_u2 [(7, 0), (0, 2), (0, 0), (1, 1), (0, 0), (0, 1), (39, 0), (0, 3), (21, 1), (75, 0)] 8 54 (nl) (FsI (FsM w1 nb An Ad As Al At cn nd cd n0 c0 nl cl nt ct ns ds F Az Al nz cz nl cl z F.ls) (allB F.ls F.ls) nl) (by (try dsimp only [gt]); exact ⟨0, rfl, rfl, Nat.zero_le _, rfl, HSM⟩) (by kernel_rfl) ?_
  intro u1 p8 p54 gk wr a hrel ha J1 K1 hJ1 hK1
  dsimp only [relaxR, Go.Proofs.YtepicjpdhpojnaaGreatDoor.v2, Nat.reduceAdd] at ha
  subst ha
  clear HSM w6
  obtain ⟨i, rfl, rfl, hi, rfl, HM⟩ := hrel
  by_cases hlt : i < nl; rotate_left
  ·have hii : decide ((i : Int) < ( nl : Int)) = false := by simp; omega
   have hii2 : decide (i < nl) = false := by simp; omega
   have HAL : Hid (allB F.ls F.ls i = allB F.ls F.ls F.ls.length) := by unfold Hid allB; rw [List.take_of_length_le (by rw [HLK.out]; omega), List.take_of_length_le (Nat.le_refl _)]
   have k0 : wr.cell? ⟨nb, 0, none⟩ = some (.slice An 6 cn) := HM.out.m.bn.cell 0
   have k1 : wr.cell? ⟨nb, 1, none⟩ = some (.slice Ad nd cd) := HM.out.m.bn.cell 1
   have k2 : wr.cell? ⟨nb + 1, 0, none⟩ = some (.slice As n0 c0) := HM.out.m.bf.cell 0
   go_wp2_with fail
   clear k0 k1 k2 hii hii2
   have HSE := Lib.hid (stateErr_len (fdErr_zero HF4.out).1)
   have HEN : Hid (EndsOk 6 ds) := by have := HOK.out.e; rw [hcn.1] at this; exact this
   have HAO : Hid (AOk 6 ds) := by have := HOK.out.a; rw [hcn.1] at this; exact this
   refine (rcols_any An Ad As 6 cn nd cd n0 c0 wr.heap.size wr.heap.size wr.heap.size ns ds F.s wr HM.out.m.x.hn.1 HM.out.m.x.hd.1 HM.out.m.x.hs.1 (Nat.le_refl _) (Nat.le_refl _) (Nat.le_refl _) HM.out.m.x.sn HM.out.m.x.sd (by decide) (fun _ => ⟨by have := HSE.out.2.1; omega, HEN.out, HOK.out.ne⟩) (fun _ => ⟨HAO.out, HOK.out.k⟩)).mono ?_
   rintro e w8 ⟨hb8, hcase⟩
   rcases hcase with ⟨he, _⟩ | ⟨_, Ac, co, rfl, hO, hC⟩
   ·exact absurd (fdErr_zero HF4.out).1 he
   have HC := Lib.hid hC.out
   have HM8 := Lib.hid (HM.out.later hb8.out)
   have HO8 := Lib.hid hO.out
   have HLC := Lib.hid hO.out.len
   clear hb8 hC hO HM
   go_upto_region 23 with (fail)
   refine wp_loop_u2 [(15, 0), (0, 2), (0, 0), (0, 1), (66, 0), (0, 3), (12, 1), (52, 0)] 16 86 (nz) (FsI (fun W' => FsM w1 nb An Ad As Al At cn nd cd n0 c0 nl cl nt ct ns ds F Az Al nz cz nl cl z F.ls W' ∧ IntsO W' wr.heap.size Ac 6 6 co) (deadB co z) nz) (by (try dsimp only [gt]); exact ⟨0, rfl, rfl, Nat.zero_le _, rfl, HM8.out, HO8.out⟩) (by kernel_rfl) ?_
   intro u3 p16 p86 gk wq a hrel ha J3 K3 hJ3 hK3
   dsimp only [relaxR, Go.Proofs.YtepicjpdhpojnaaGreatDoor.v2, Nat.reduceAdd] at ha
   subst ha
   clear HM8 HO8 w8
   obtain ⟨t, rfl, rfl, ht, rfl, HM⟩ := hrel
   by_cases hlt3 : t < nz
   ·obtain ⟨bz, oz, v, hAz, hbz, hxz, hcz⟩ := HM.out.1.z.1.at1 hlt3
    have hvr := ris_mem HZR.out.2.2 v (List.mem_of_getElem? hxz)
    obtain ⟨v, rfl⟩ := Int.eq_ofNat_of_zero_le (by omega : 0 ≤ v)
    have hv6 : v < 6 := by omega
    obtain ⟨gc, x, hAc, hg1, hg2, hxc, hcc, -, -⟩ := HM.out.2.at hv6
    have HDS := Lib.hid (deadB_snoc (cl := co) hxz)
    have HLV : Hid (liveAt co (v : Int) = !(bits BinOp.and IntKind.i64 x 1 == 0)) := by unfold Hid liveAt; rw [Int.toNat_natCast, List.getD_eq_getElem?_getD, hxc]; rfl
    subst hAz
    subst hAc
    clear hvr hxz hxc
    obtain ⟨dv, hdv⟩ : ∃ dv, dv = deadB co z t := ⟨_, rfl⟩
    rw [← hdv]
    rcases dv with _ | _
    ·have HNV : Hid (deadB co z (t + 1) = false) := by unfold Hid; rw [HDS.out, ← hdv]; rfl
     clear hdv
     go_wp2_with fail
     refine Handed.intro (nz - (t + 1)) (by omega) (hJ3 _ _ _ (LpI2.back 16 86 ?_ (by kernel_rfl)))
     dsimp only [gt]
     exact ⟨t + 1, by rw [HNV.out], by go_num, by omega, rfl, HM⟩
    ·rcases hbb : (bits BinOp.and IntKind.i64 x 1 == 0) with _ | _
     ·have HNV : Hid (deadB co z (t + 1) = false) := by unfold Hid; rw [HDS.out, ← hdv, HLV.out, hbb]; rfl
      clear hdv
      go_wp2_with fail
      refine Handed.intro (nz - (t + 1)) (by omega) (hJ3 _ _ _ (LpI2.back 16 86 ?_ (by kernel_rfl)))
      dsimp only [gt]
      exact ⟨t + 1, by rw [HNV.out], by go_num, by omega, rfl, HM⟩
     ·have HNV : Hid (deadB co z (t + 1) = true) := by unfold Hid; rw [HDS.out, ← hdv, HLV.out, hbb]; rfl
      clear hdv
      go_wp2_with fail
      refine Handed.intro (nz - (t + 1)) (by omega) (hJ3 _ _ _ (LpI2.back 16 86 ?_ (by kernel_rfl)))
      dsimp only [gt]
      exact ⟨t + 1, by rw [HNV.out], by go_num, by omega, rfl, HM⟩
   have hii : decide ((t : Int) < (nz : Int)) = false := by simp; omega
   have hii2 : decide (t < nz) = false := by simp; omega
   have HDD : Hid (deadB co z t = deadB co z z.length) := by unfold Hid deadB; rw [List.take_of_length_le (by rw [HLZ.out]; omega), List.take_of_length_le (Nat.le_refl _)]
   have HMQ := Lib.hid HM.out.1
   clear HM
   obtain ⟨HSR0, HSI0⟩ := sec_err (F := F) HF4.out HLE.out HZE.out
   have HSR := Lib.hid HSR0; have HSI := Lib.hid HSI0
   clear HSR0 HSI0
   have k0 : wq.cell? ⟨nb, 0, none⟩ = some (.slice An 6 cn) := HMQ.out.m.bn.cell 0
   have k1 : wq.cell? ⟨nb, 1, none⟩ = some (.slice Ad nd cd) := HMQ.out.m.bn.cell 1
   go_wp2_with fail
   clear k0 k1 hii hii2
   have hsd := rSides_any An Ad Al Az 6 cn nd cd nl cl nz cz ns ds F.ls z wq HMQ.out.m.x.la HMQ.out.m.x.hn.1 HMQ.out.m.x.hd.1 HMQ.out.k.1 HMQ.out.z.1 HMQ.out.m.x.sn HMQ.out.m.x.sd (by have := HZR.out; omega) (by omega)
   unfold SidesPost at hsd
   rw [HSI.out] at hsd
   refine hsd.mono ?_
   rintro e w9 ⟨rfl, hb9⟩
   have HM9 := Lib.hid (HMQ.out.later hb9.out)
   clear hsd hb9 HMQ
   have k0 : w9.cell? ⟨nb, 0, none⟩ = some (.slice An 6 cn) := HM9.out.m.bn.cell 0
   have k1 : w9.cell? ⟨nb, 1, none⟩ = some (.slice Ad nd cd) := HM9.out.m.bn.cell 1
   have f0 : w9.cell? ⟨nb + 1, 0, none⟩ = some (.slice As n0 c0) := HM9.out.m.bf.cell 0
   have f1 : w9.cell? ⟨nb + 1, 1, none⟩ = some (.slice Al nl cl) := HM9.out.m.bf.cell 1
   have f2 : w9.cell? ⟨nb + 1, 2, none⟩ = some (.slice At nt ct) := HM9.out.m.bf.cell 2
   go_wp2_with fail
   clear k0 k1 f0 f1 f2
   refine (Secure_any An Ad As Al At Al Az 6 cn nd cd n0 c0 nl cl nt ct nl cl nz cz ns ds F F.ls z false w9 HM9.out.m.x.fdm HM9.out.k.1 HM9.out.z.1 (by have := HZR.out; omega)).mono ?_
   rintro e w10 ⟨⟨he, _⟩ | ⟨_, c1, hc1, rfl⟩, hb10⟩
   ·exact absurd HSR.out he
   have HM10 := Lib.hid (HM9.out.later hb10.out)
   have HA1 : Hid (secB ns ds F F.ls z c1 false = (allB F.ls F.ls i && deadB co z t)) := by unfold Hid; rw [cols_one hc1.out HC.out, sec_no, HAL.out, HDD.out]
   clear hb10 HM9
   have k0 : w10.cell? ⟨nb, 0, none⟩ = some (.slice An 6 cn) := HM10.out.m.bn.cell 0
   have k1 : w10.cell? ⟨nb, 1, none⟩ = some (.slice Ad nd cd) := HM10.out.m.bn.cell 1
   have f0 : w10.cell? ⟨nb + 1, 0, none⟩ = some (.slice As n0 c0) := HM10.out.m.bf.cell 0
   have f1 : w10.cell? ⟨nb + 1, 1, none⟩ = some (.slice Al nl cl) := HM10.out.m.bf.cell 1
   have f2 : w10.cell? ⟨nb + 1, 2, none⟩ = some (.slice At nt ct) := HM10.out.m.bf.cell 2
   rw [HA1.out]
   go_wp2_with fail
   clear k0 k1 f0 f1 f2
   refine (Secure_any An Ad As Al At Al Az 6 cn nd cd n0 c0 nl cl nt ct nl cl nz cz ns ds F F.ls z true w10 HM10.out.m.x.fdm HM10.out.k.1 HM10.out.z.1 (by have := HZR.out; omega)).mono ?_
   rintro e w11 ⟨⟨he, _⟩ | ⟨_, c2, hc2, rfl⟩, hb11⟩
   ·exact absurd HSR.out he
   have HA2 : Hid (secB ns ds F F.ls z c2 true = ((allB F.ls F.ls i && deadB co z t) && sidesB ns ds F.ls z)) := by unfold Hid; rw [cols_one hc2.out hc1.out, sec_yes, HA1.out]
   have HBE := Lib.hid (HM10.out.m.bl.trans (hb11.out.mono HM10.out.m.bl.size))
   clear hb11 HM10
   rw [HA2.out]
   generalize allB F.ls F.ls i = b1 at *
   generalize deadB co z t = b2 at *
   generalize sidesB ns ds F.ls z = b3 at *
   rcases b1 with _ | _ <;> rcases b2 with _ | _ <;> rcases b3 with _ | _
   all_goals (go_wp2_with fail; go_ret; exact ⟨rfl, HB0.out.trans (HBE.out.mono hsz)⟩)
  obtain ⟨b, off, d, p, q, hA, hbb, hx, l0, l1, l2⟩ := HM.out.k.1.lock hlt
  have HX := Lib.hid hx
  subst hA
  clear hx
  go_upto_region 12 with (fail)
  have HBE : Hid (Below wr.heap.size wr (wr.alloc (.cells #[.int .i64 d, .int .i64 p, .int .i64 q] 46))) := (Below.refl _ _).alloc (Nat.le_refl _) _
  have HBL := Lib.hid (Blk.new wr 46 #[.int .i64 d, .int .i64 p, .int .i64 q])
  have HMN := Lib.hid (HM.out.later HBE.out)
  clear HM HBE l0 l1 l2 hbb
  generalize World.alloc wr _ = W at *
  obtain ⟨kb, hkb⟩ : ∃ x, x = wr.heap.size := ⟨_, rfl⟩
  rw [← hkb] at HBL ⊢
  clear hkb
  have f1 : W.cell? ⟨nb + 1, 1, none⟩ = some (.slice (some ⟨b, off, none⟩) nl cl) := HMN.out.m.bf.cell 1
  go_upto_region 14 with (fail)
  clear f1
  refine wp_loop_u2 [(10, 0), (0, 2), (0, 0), (0, 1), (46, 0), (0, 3), (9, 1), (80, 0)] 11 61 (nl) (FsI (fun W' => FsM w1 nb An Ad As (some ⟨b, off, none⟩) At cn nd cd n0 c0 nl cl nt ct ns ds F Az (some ⟨b, off, none⟩) nz cz nl cl z F.ls W' ∧ Blk W' kb 46 #[.int .i64 d, .int .i64 p, .int .i64 q]) (fndB F.ls ⟨d, p, q⟩) nl) (by (try dsimp only [gt]); exact ⟨0, rfl, rfl, Nat.zero_le _, rfl, HMN.out, HBL.out⟩) (by kernel_rfl) ?_
  intro u2 p11 p61 gk wr a hrel ha J2 K2 hJ2 hK2
  dsimp only [relaxR, Go.Proofs.YtepicjpdhpojnaaGreatDoor.v2, Nat.reduceAdd] at ha
  subst ha
  clear HMN HBL W
  obtain ⟨j, rfl, rfl, hj, rfl, HM⟩ := hrel
  by_cases hlt2 : j < nl; rotate_left
  ·have hii : decide ((j : Int) < (nl : Int)) = false := by simp; omega
   have hii2 : decide (j < nl) = false := by simp; omega
   have HFU : Hid (fndB F.ls ⟨d, p, q⟩ j = hasLk F.ls ⟨d, p, q⟩) := fndB_full (by have := HM.out.1.m.ln; omega)
   have HAS := Lib.hid (allB_snoc (fs := F.ls) HX.out)
   obtain ⟨av, hav⟩ : ∃ av, av = allB F.ls F.ls i := ⟨_, rfl⟩
   obtain ⟨fv, hfv⟩ : ∃ fv, fv = fndB F.ls ⟨d, p, q⟩ j := ⟨_, rfl⟩
   rw [← hav, ← hfv]
   have HNV : Hid (allB F.ls F.ls (i + 1) = (av && fv)) := by unfold Hid; rw [HAS.out, ← hav, ← HFU.out, ← hfv]
   clear hav hfv
   rcases av with _ | _
   ·go_wp2_with fail
    refine Handed.intro (nl - (i + 1)) (by omega) (hJ1 _ _ _ (LpI2.back 8 54 ?_ (by kernel_rfl)))
    dsimp only [gt]
    exact ⟨i + 1, by rw [HNV.out]; rfl, by go_num, by omega, rfl, HM.out.1⟩
   ·rcases fv with _ | _
    ·go_wp2_with fail
     refine Handed.intro (nl - (i + 1)) (by omega) (hJ1 _ _ _ (LpI2.back 8 54 ?_ (by kernel_rfl)))
     dsimp only [gt]
     exact ⟨i + 1, by rw [HNV.out]; rfl, by go_num, by omega, rfl, HM.out.1⟩
    ·go_wp2_with fail
     refine Handed.intro (nl - (i + 1)) (by omega) (hJ1 _ _ _ (LpI2.back 8 54 ?_ (by kernel_rfl)))
     dsimp only [gt]
     exact ⟨i + 1, by rw [HNV.out]; rfl, by go_num, by omega, rfl, HM.out.1⟩
  obtain ⟨b2, off2, d2, p2, q2, hA2, hbb2, hx2, l0, l1, l2⟩ := HM.out.1.m.x.hl.1.lock hlt2
  have HX2 := Lib.hid hx2
  cases hA2
  clear hx2
  go_upto_region 16 with (fail)
  have HBE2 : Hid (Below wr.heap.size wr (wr.alloc (.cells #[.int .i64 d2, .int .i64 p2, .int .i64 q2] 46))) := (Below.refl _ _).alloc (Nat.le_refl _) _
  have HBY := Lib.hid (Blk.new wr 46 #[.int .i64 d2, .int .i64 p2, .int .i64 q2])
  have HMY := Lib.hid (HM.out.1.later HBE2.out)
  have HBK := Lib.hid (HM.out.2.below HBE2.out HM.out.2.lt)
  clear HM HBE2 l0 l1 l2 hbb2
  generalize World.alloc wr _ = W at *
  obtain ⟨yb, hyb⟩ : ∃ x, x = wr.heap.size := ⟨_, rfl⟩
  rw [← hyb] at HBY ⊢
  clear hyb
  have y0 : W.cell? ⟨yb, 0, none⟩ = some (.int .i64 d2) := HBY.out.cell 0
  have y1 : W.cell? ⟨yb, 1, none⟩ = some (.int .i64 p2) := HBY.out.cell 1
  have y2 : W.cell? ⟨yb, 2, none⟩ = some (.int .i64 q2) := HBY.out.cell 2
  have x0 : W.cell? ⟨kb, 0, none⟩ = some (.int .i64 d) := HBK.out.cell 0
  have x1 : W.cell? ⟨kb, 1, none⟩ = some (.int .i64 p) := HBK.out.cell 1
  have x2 : W.cell? ⟨kb, 2, none⟩ = some (.int .i64 q) := HBK.out.cell 2
  have HFS := Lib.hid (fndB_snoc (k := ⟨d, p, q⟩) HX2.out)
  obtain ⟨fv, hfv⟩ : ∃ fv, fv = fndB F.ls ⟨d, p, q⟩ j := ⟨_, rfl⟩
  rw [← hfv]
  rcases fv with _ | _; rotate_left
  ·have HNV : Hid (fndB F.ls ⟨d, p, q⟩ (j + 1) = true) := by unfold Hid; rw [HFS.out, ← hfv]; rfl
   clear hfv
   go_wp2_with fail
   refine Handed.intro (nl - (j + 1)) (by omega) (hJ2 _ _ _ (LpI2.back 11 61 ?_ (by kernel_rfl)))
   dsimp only [gt]
   exact ⟨j + 1, by rw [HNV.out], by go_num, by omega, rfl, HMY.out, HBK.out⟩
  have heql := fun W => run_eql_lk d2 p2 q2 d p q W
  rcases hee : eqLk ⟨d2, p2, q2⟩ ⟨d, p, q⟩ with _ | _
  ·rw [hee] at heql
   have HNV : Hid (fndB F.ls ⟨d, p, q⟩ (j + 1) = false) := by unfold Hid; rw [HFS.out, ← hfv, hee]; rfl
   clear hfv hee
   go_wp2_with fail
   refine Handed.intro (nl - (j + 1)) (by omega) (hJ2 _ _ _ (LpI2.back 11 61 ?_ (by kernel_rfl)))
   dsimp only [gt]
   exact ⟨j + 1, by rw [HNV.out], by go_num, by omega, rfl, HMY.out, HBK.out⟩
  ·rw [hee] at heql
   have HNV : Hid (fndB F.ls ⟨d, p, q⟩ (j + 1) = true) := by unfold Hid; rw [HFS.out, ← hfv, hee]; rfl
   clear hfv hee
   go_wp2_with fail
   refine Handed.intro (nl - (j + 1)) (by omega) (hJ2 _ _ _ (LpI2.back 11 61 ?_ (by kernel_rfl)))
   dsimp only [gt]
   exact ⟨j + 1, by rw [HNV.out], by go_num, by omega, rfl, HMY.out, HBK.out⟩
 ·have k0 : w6.cell? ⟨nb, 0, none⟩ = some (.slice An 6 cn) := HM6.out.bn.cell 0
  have k1 : w6.cell? ⟨nb, 1, none⟩ = some (.slice Ad nd cd) := HM6.out.bn.cell 1
  have k2 : w6.cell? ⟨nb + 1, 0, none⟩ = some (.slice As n0 c0) := HM6.out.bf.cell 0
  go_wp2_with fail
  clear k0 k1 k2
  refine (mklocks_any w1.heap.size An Ad As 6 cn nd cd n0 c0 3 ns ds F.s w6 HM6.out.x.dk HM6.out.x.hn HM6.out.x.hd HM6.out.x.hs (by omega) (by decide) HM6.out.x.sn HM6.out.x.sd).mono ?_
  rintro e w7 ⟨Am, nm, cm, ls, rfl, hd7, hg7, hO7, hm7⟩
  have HLE : Hid (locksErr ns ds ls = 0) := locks_fine (stateErr_len (fdErr_zero HF4.out).1).1 hm7.out.1
  have HM7 := Lib.hid (HM6.out.grown HL.out hg7.out hd7.out)
  have HSM : Hid (FsM w1 nb An Ad As Al At cn nd cd n0 c0 nl cl nt ct ns ds F Az Am nz cz nm cm z ls w7) := ⟨HM7.out, HZ6.out.grown hg7.out, SlX.of_own hO7.out (by have := HM6.out.x.dk.lt; omega)⟩
  clear hd7 hg7 hO7 hm7 HM6 HM7 HZ6
  go_upto_region 8 with (fail)
  have HLK : Hid (ls.length = nm) := HSM.out.k.1.len (fun _ => rfl) (by decide)
  have hlek := HSM.out.k.1.le
  have hlel := HSM.out.m.x.hl.1.le
  have hlez := HSM.out.z.1.le
  go_upto_region 10 with (fail)
  refine wp_loop_u2 [(7, 0), (0, 2), (0, 0), (1, 1), (0, 0), (0, 1), (39, 0), (0, 3), (21, 1), (75, 0)] 8 54 (nm) (FsI (FsM w1 nb An Ad As Al At cn nd cd n0 c0 nl cl nt ct ns ds F Az Am nz cz nm cm z ls) (allB F.ls ls) nm) (by (try dsimp only [gt]); exact ⟨0, rfl, rfl, Nat.zero_le _, rfl, HSM⟩) (by kernel_rfl) ?_
  intro u1 p8 p54 gk wr a hrel ha J1 K1 hJ1 hK1
  dsimp only [relaxR, Go.Proofs.YtepicjpdhpojnaaGreatDoor.v2, Nat.reduceAdd] at ha
  subst ha
  clear HSM w7
  obtain ⟨i, rfl, rfl, hi, rfl, HM⟩ := hrel
  by_cases hlt : i < nm; rotate_left
  ·have hii : decide ((i : Int) < ( nm : Int)) = false := by simp; omega
   have hii2 : decide (i < nm) = false := by simp; omega
   have HAL : Hid (allB F.ls ls i = allB F.ls ls ls.length) := by unfold Hid allB; rw [List.take_of_length_le (by rw [HLK.out]; omega), List.take_of_length_le (Nat.le_refl _)]
   have k0 : wr.cell? ⟨nb, 0, none⟩ = some (.slice An 6 cn) := HM.out.m.bn.cell 0
   have k1 : wr.cell? ⟨nb, 1, none⟩ = some (.slice Ad nd cd) := HM.out.m.bn.cell 1
   have k2 : wr.cell? ⟨nb + 1, 0, none⟩ = some (.slice As n0 c0) := HM.out.m.bf.cell 0
   go_wp2_with fail
   clear k0 k1 k2 hii hii2
   have HSE := Lib.hid (stateErr_len (fdErr_zero HF4.out).1)
   have HEN : Hid (EndsOk 6 ds) := by have := HOK.out.e; rw [hcn.1] at this; exact this
   have HAO : Hid (AOk 6 ds) := by have := HOK.out.a; rw [hcn.1] at this; exact this
   refine (rcols_any An Ad As 6 cn nd cd n0 c0 wr.heap.size wr.heap.size wr.heap.size ns ds F.s wr HM.out.m.x.hn.1 HM.out.m.x.hd.1 HM.out.m.x.hs.1 (Nat.le_refl _) (Nat.le_refl _) (Nat.le_refl _) HM.out.m.x.sn HM.out.m.x.sd (by decide) (fun _ => ⟨by have := HSE.out.2.1; omega, HEN.out, HOK.out.ne⟩) (fun _ => ⟨HAO.out, HOK.out.k⟩)).mono ?_
   rintro e w8 ⟨hb8, hcase⟩
   rcases hcase with ⟨he, _⟩ | ⟨_, Ac, co, rfl, hO, hC⟩
   ·exact absurd (fdErr_zero HF4.out).1 he
   have HC := Lib.hid hC.out
   have HM8 := Lib.hid (HM.out.later hb8.out)
   have HO8 := Lib.hid hO.out
   have HLC := Lib.hid hO.out.len
   clear hb8 hC hO HM
   go_upto_region 23 with (fail)
   refine wp_loop_u2 [(15, 0), (0, 2), (0, 0), (0, 1), (66, 0), (0, 3), (12, 1), (52, 0)] 16 86 (nz) (FsI (fun W' => FsM w1 nb An Ad As Al At cn nd cd n0 c0 nl cl nt ct ns ds F Az Am nz cz nm cm z ls W' ∧ IntsO W' wr.heap.size Ac 6 6 co) (deadB co z) nz) (by (try dsimp only [gt]); exact ⟨0, rfl, rfl, Nat.zero_le _, rfl, HM8.out, HO8.out⟩) (by kernel_rfl) ?_
   intro u3 p16 p86 gk wq a hrel ha J3 K3 hJ3 hK3
   dsimp only [relaxR, Go.Proofs.YtepicjpdhpojnaaGreatDoor.v2, Nat.reduceAdd] at ha
   subst ha
   clear HM8 HO8 w8
   obtain ⟨t, rfl, rfl, ht, rfl, HM⟩ := hrel
   by_cases hlt3 : t < nz
   ·obtain ⟨bz, oz, v, hAz, hbz, hxz, hcz⟩ := HM.out.1.z.1.at1 hlt3
    have hvr := ris_mem HZR.out.2.2 v (List.mem_of_getElem? hxz)
    obtain ⟨v, rfl⟩ := Int.eq_ofNat_of_zero_le (by omega : 0 ≤ v)
    have hv6 : v < 6 := by omega
    obtain ⟨gc, x, hAc, hg1, hg2, hxc, hcc, -, -⟩ := HM.out.2.at hv6
    have HDS := Lib.hid (deadB_snoc (cl := co) hxz)
    have HLV : Hid (liveAt co (v : Int) = !(bits BinOp.and IntKind.i64 x 1 == 0)) := by unfold Hid liveAt; rw [Int.toNat_natCast, List.getD_eq_getElem?_getD, hxc]; rfl
    subst hAz
    subst hAc
    clear hvr hxz hxc
    obtain ⟨dv, hdv⟩ : ∃ dv, dv = deadB co z t := ⟨_, rfl⟩
    rw [← hdv]
    rcases dv with _ | _
    ·have HNV : Hid (deadB co z (t + 1) = false) := by unfold Hid; rw [HDS.out, ← hdv]; rfl
     clear hdv
     go_wp2_with fail
     refine Handed.intro (nz - (t + 1)) (by omega) (hJ3 _ _ _ (LpI2.back 16 86 ?_ (by kernel_rfl)))
     dsimp only [gt]
     exact ⟨t + 1, by rw [HNV.out], by go_num, by omega, rfl, HM⟩
    ·rcases hbb : (bits BinOp.and IntKind.i64 x 1 == 0) with _ | _
     ·have HNV : Hid (deadB co z (t + 1) = false) := by unfold Hid; rw [HDS.out, ← hdv, HLV.out, hbb]; rfl
      clear hdv
      go_wp2_with fail
      refine Handed.intro (nz - (t + 1)) (by omega) (hJ3 _ _ _ (LpI2.back 16 86 ?_ (by kernel_rfl)))
      dsimp only [gt]
      exact ⟨t + 1, by rw [HNV.out], by go_num, by omega, rfl, HM⟩
     ·have HNV : Hid (deadB co z (t + 1) = true) := by unfold Hid; rw [HDS.out, ← hdv, HLV.out, hbb]; rfl
      clear hdv
      go_wp2_with fail
      refine Handed.intro (nz - (t + 1)) (by omega) (hJ3 _ _ _ (LpI2.back 16 86 ?_ (by kernel_rfl)))
      dsimp only [gt]
      exact ⟨t + 1, by rw [HNV.out], by go_num, by omega, rfl, HM⟩
   have hii : decide ((t : Int) < (nz : Int)) = false := by simp; omega
   have hii2 : decide (t < nz) = false := by simp; omega
   have HDD : Hid (deadB co z t = deadB co z z.length) := by unfold Hid deadB; rw [List.take_of_length_le (by rw [HLZ.out]; omega), List.take_of_length_le (Nat.le_refl _)]
   have HMQ := Lib.hid HM.out.1
   clear HM
   obtain ⟨HSR0, HSI0⟩ := sec_err (F := F) HF4.out HLE.out HZE.out
   have HSR := Lib.hid HSR0; have HSI := Lib.hid HSI0
   clear HSR0 HSI0
   have k0 : wq.cell? ⟨nb, 0, none⟩ = some (.slice An 6 cn) := HMQ.out.m.bn.cell 0
   have k1 : wq.cell? ⟨nb, 1, none⟩ = some (.slice Ad nd cd) := HMQ.out.m.bn.cell 1
   go_wp2_with fail
   clear k0 k1 hii hii2
   have hsd := rSides_any An Ad Am Az 6 cn nd cd nm cm nz cz ns ds ls z wq HMQ.out.m.x.la HMQ.out.m.x.hn.1 HMQ.out.m.x.hd.1 HMQ.out.k.1 HMQ.out.z.1 HMQ.out.m.x.sn HMQ.out.m.x.sd (by have := HZR.out; omega) (by omega)
   unfold SidesPost at hsd
   rw [HSI.out] at hsd
   refine hsd.mono ?_
   rintro e w9 ⟨rfl, hb9⟩
   have HM9 := Lib.hid (HMQ.out.later hb9.out)
   clear hsd hb9 HMQ
   have k0 : w9.cell? ⟨nb, 0, none⟩ = some (.slice An 6 cn) := HM9.out.m.bn.cell 0
   have k1 : w9.cell? ⟨nb, 1, none⟩ = some (.slice Ad nd cd) := HM9.out.m.bn.cell 1
   have f0 : w9.cell? ⟨nb + 1, 0, none⟩ = some (.slice As n0 c0) := HM9.out.m.bf.cell 0
   have f1 : w9.cell? ⟨nb + 1, 1, none⟩ = some (.slice Al nl cl) := HM9.out.m.bf.cell 1
   have f2 : w9.cell? ⟨nb + 1, 2, none⟩ = some (.slice At nt ct) := HM9.out.m.bf.cell 2
   go_wp2_with fail
   clear k0 k1 f0 f1 f2
   refine (Secure_any An Ad As Al At Am Az 6 cn nd cd n0 c0 nl cl nt ct nm cm nz cz ns ds F ls z false w9 HM9.out.m.x.fdm HM9.out.k.1 HM9.out.z.1 (by have := HZR.out; omega)).mono ?_
   rintro e w10 ⟨⟨he, _⟩ | ⟨_, c1, hc1, rfl⟩, hb10⟩
   ·exact absurd HSR.out he
   have HM10 := Lib.hid (HM9.out.later hb10.out)
   have HA1 : Hid (secB ns ds F ls z c1 false = (allB F.ls ls i && deadB co z t)) := by unfold Hid; rw [cols_one hc1.out HC.out, sec_no, HAL.out, HDD.out]
   clear hb10 HM9
   have k0 : w10.cell? ⟨nb, 0, none⟩ = some (.slice An 6 cn) := HM10.out.m.bn.cell 0
   have k1 : w10.cell? ⟨nb, 1, none⟩ = some (.slice Ad nd cd) := HM10.out.m.bn.cell 1
   have f0 : w10.cell? ⟨nb + 1, 0, none⟩ = some (.slice As n0 c0) := HM10.out.m.bf.cell 0
   have f1 : w10.cell? ⟨nb + 1, 1, none⟩ = some (.slice Al nl cl) := HM10.out.m.bf.cell 1
   have f2 : w10.cell? ⟨nb + 1, 2, none⟩ = some (.slice At nt ct) := HM10.out.m.bf.cell 2
   rw [HA1.out]
   go_wp2_with fail
   clear k0 k1 f0 f1 f2
   refine (Secure_any An Ad As Al At Am Az 6 cn nd cd n0 c0 nl cl nt ct nm cm nz cz ns ds F ls z true w10 HM10.out.m.x.fdm HM10.out.k.1 HM10.out.z.1 (by have := HZR.out; omega)).mono ?_
   rintro e w11 ⟨⟨he, _⟩ | ⟨_, c2, hc2, rfl⟩, hb11⟩
   ·exact absurd HSR.out he
   have HA2 : Hid (secB ns ds F ls z c2 true = ((allB F.ls ls i && deadB co z t) && sidesB ns ds ls z)) := by unfold Hid; rw [cols_one hc2.out hc1.out, sec_yes, HA1.out]
   have HBE := Lib.hid (HM10.out.m.bl.trans (hb11.out.mono HM10.out.m.bl.size))
   clear hb11 HM10
   rw [HA2.out]
   generalize allB F.ls ls i = b1 at *
   generalize deadB co z t = b2 at *
   generalize sidesB ns ds ls z = b3 at *
   rcases b1 with _ | _ <;> rcases b2 with _ | _ <;> rcases b3 with _ | _
   all_goals (go_wp2_with fail; go_ret; exact ⟨rfl, HB0.out.trans (HBE.out.mono hsz)⟩)
  obtain ⟨b, off, d, p, q, hA, hbb, hx, l0, l1, l2⟩ := HM.out.k.1.lock hlt
  have HX := Lib.hid hx
  subst hA
  clear hx
  go_upto_region 12 with (fail)
  have HBE : Hid (Below wr.heap.size wr (wr.alloc (.cells #[.int .i64 d, .int .i64 p, .int .i64 q] 46))) := (Below.refl _ _).alloc (Nat.le_refl _) _
  have HBL := Lib.hid (Blk.new wr 46 #[.int .i64 d, .int .i64 p, .int .i64 q])
  have HMN := Lib.hid (HM.out.later HBE.out)
  clear HM HBE l0 l1 l2 hbb
  generalize World.alloc wr _ = W at *
  obtain ⟨kb, hkb⟩ : ∃ x, x = wr.heap.size := ⟨_, rfl⟩
  rw [← hkb] at HBL ⊢
  clear hkb
  have f1 : W.cell? ⟨nb + 1, 1, none⟩ = some (.slice Al nl cl) := HMN.out.m.bf.cell 1
  go_upto_region 14 with (fail)
  clear f1
  refine wp_loop_u2 [(10, 0), (0, 2), (0, 0), (0, 1), (46, 0), (0, 3), (9, 1), (80, 0)] 11 61 (nl) (FsI (fun W' => FsM w1 nb An Ad As Al At cn nd cd n0 c0 nl cl nt ct ns ds F Az (some ⟨b, off, none⟩) nz cz nm cm z ls W' ∧ Blk W' kb 46 #[.int .i64 d, .int .i64 p, .int .i64 q]) (fndB F.ls ⟨d, p, q⟩) nl) (by (try dsimp only [gt]); exact ⟨0, rfl, rfl, Nat.zero_le _, rfl, HMN.out, HBL.out⟩) (by kernel_rfl) ?_
  intro u2 p11 p61 gk wr a hrel ha J2 K2 hJ2 hK2
  dsimp only [relaxR, Go.Proofs.YtepicjpdhpojnaaGreatDoor.v2, Nat.reduceAdd] at ha
  subst ha
  clear HMN HBL W
  obtain ⟨j, rfl, rfl, hj, rfl, HM⟩ := hrel
  by_cases hlt2 : j < nl; rotate_left
  ·have hii : decide ((j : Int) < (nl : Int)) = false := by simp; omega
   have hii2 : decide (j < nl) = false := by simp; omega
   have HFU : Hid (fndB F.ls ⟨d, p, q⟩ j = hasLk F.ls ⟨d, p, q⟩) := fndB_full (by have := HM.out.1.m.ln; omega)
   have HAS := Lib.hid (allB_snoc (fs := F.ls) HX.out)
   obtain ⟨av, hav⟩ : ∃ av, av = allB F.ls ls i := ⟨_, rfl⟩
   obtain ⟨fv, hfv⟩ : ∃ fv, fv = fndB F.ls ⟨d, p, q⟩ j := ⟨_, rfl⟩
   rw [← hav, ← hfv]
   have HNV : Hid (allB F.ls ls (i + 1) = (av && fv)) := by unfold Hid; rw [HAS.out, ← hav, ← HFU.out, ← hfv]
   clear hav hfv
   rcases av with _ | _
   ·go_wp2_with fail
    refine Handed.intro (nm - (i + 1)) (by omega) (hJ1 _ _ _ (LpI2.back 8 54 ?_ (by kernel_rfl)))
    dsimp only [gt]
    exact ⟨i + 1, by rw [HNV.out]; rfl, by go_num, by omega, rfl, HM.out.1⟩
   ·rcases fv with _ | _
    ·go_wp2_with fail
     refine Handed.intro (nm - (i + 1)) (by omega) (hJ1 _ _ _ (LpI2.back 8 54 ?_ (by kernel_rfl)))
     dsimp only [gt]
     exact ⟨i + 1, by rw [HNV.out]; rfl, by go_num, by omega, rfl, HM.out.1⟩
    ·go_wp2_with fail
     refine Handed.intro (nm - (i + 1)) (by omega) (hJ1 _ _ _ (LpI2.back 8 54 ?_ (by kernel_rfl)))
     dsimp only [gt]
     exact ⟨i + 1, by rw [HNV.out]; rfl, by go_num, by omega, rfl, HM.out.1⟩
  obtain ⟨b2, off2, d2, p2, q2, hA2, hbb2, hx2, l0, l1, l2⟩ := HM.out.1.m.x.hl.1.lock hlt2
  have HX2 := Lib.hid hx2
  cases hA2
  clear hx2
  go_upto_region 16 with (fail)
  have HBE2 : Hid (Below wr.heap.size wr (wr.alloc (.cells #[.int .i64 d2, .int .i64 p2, .int .i64 q2] 46))) := (Below.refl _ _).alloc (Nat.le_refl _) _
  have HBY := Lib.hid (Blk.new wr 46 #[.int .i64 d2, .int .i64 p2, .int .i64 q2])
  have HMY := Lib.hid (HM.out.1.later HBE2.out)
  have HBK := Lib.hid (HM.out.2.below HBE2.out HM.out.2.lt)
  clear HM HBE2 l0 l1 l2 hbb2
  generalize World.alloc wr _ = W at *
  obtain ⟨yb, hyb⟩ : ∃ x, x = wr.heap.size := ⟨_, rfl⟩
  rw [← hyb] at HBY ⊢
  clear hyb
  have y0 : W.cell? ⟨yb, 0, none⟩ = some (.int .i64 d2) := HBY.out.cell 0
  have y1 : W.cell? ⟨yb, 1, none⟩ = some (.int .i64 p2) := HBY.out.cell 1
  have y2 : W.cell? ⟨yb, 2, none⟩ = some (.int .i64 q2) := HBY.out.cell 2
  have x0 : W.cell? ⟨kb, 0, none⟩ = some (.int .i64 d) := HBK.out.cell 0
  have x1 : W.cell? ⟨kb, 1, none⟩ = some (.int .i64 p) := HBK.out.cell 1
  have x2 : W.cell? ⟨kb, 2, none⟩ = some (.int .i64 q) := HBK.out.cell 2
  have HFS := Lib.hid (fndB_snoc (k := ⟨d, p, q⟩) HX2.out)
  obtain ⟨fv, hfv⟩ : ∃ fv, fv = fndB F.ls ⟨d, p, q⟩ j := ⟨_, rfl⟩
  rw [← hfv]
  rcases fv with _ | _; rotate_left
  ·have HNV : Hid (fndB F.ls ⟨d, p, q⟩ (j + 1) = true) := by unfold Hid; rw [HFS.out, ← hfv]; rfl
   clear hfv
   go_wp2_with fail
   refine Handed.intro (nl - (j + 1)) (by omega) (hJ2 _ _ _ (LpI2.back 11 61 ?_ (by kernel_rfl)))
   dsimp only [gt]
   exact ⟨j + 1, by rw [HNV.out], by go_num, by omega, rfl, HMY.out, HBK.out⟩
  have heql := fun W => run_eql_lk d2 p2 q2 d p q W
  rcases hee : eqLk ⟨d2, p2, q2⟩ ⟨d, p, q⟩ with _ | _
  ·rw [hee] at heql
   have HNV : Hid (fndB F.ls ⟨d, p, q⟩ (j + 1) = false) := by unfold Hid; rw [HFS.out, ← hfv, hee]; rfl
   clear hfv hee
   go_wp2_with fail
   refine Handed.intro (nl - (j + 1)) (by omega) (hJ2 _ _ _ (LpI2.back 11 61 ?_ (by kernel_rfl)))
   dsimp only [gt]
   exact ⟨j + 1, by rw [HNV.out], by go_num, by omega, rfl, HMY.out, HBK.out⟩
  ·rw [hee] at heql
   have HNV : Hid (fndB F.ls ⟨d, p, q⟩ (j + 1) = true) := by unfold Hid; rw [HFS.out, ← hfv, hee]; rfl
   clear hfv hee
   go_wp2_with fail
   refine Handed.intro (nl - (j + 1)) (by omega) (hJ2 _ _ _ (LpI2.back 11 61 ?_ (by kernel_rfl)))
   dsimp only [gt]
   exact ⟨j + 1, by rw [HNV.out], by go_num, by omega, rfl, HMY.out, HBK.out⟩
end Go.Proofs.YtepicjpdhpojnaaGreatDoor
