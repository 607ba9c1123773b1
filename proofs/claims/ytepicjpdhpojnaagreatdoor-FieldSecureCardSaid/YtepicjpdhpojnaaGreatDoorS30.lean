import Derived.Test.YtepicjpdhpojnaaGreatDoorS29
import Derived.BigQuiet
set_option maxRecDepth 100000
set_option maxHeartbeats 8000000
namespace Go.Proofs.YtepicjpdhpojnaaGreatDoor
open Go.RowKit
def sideErr (ns : List Nd) (ds : List Dv) (ls : List Lk) (z : List Int) : Int := if locksErr ns ds ls ≠ 0 then locksErr ns ds ls else zoneErr ns ds z
def ersL (ds : List Dv) (ls : List Lk) : List Int := thoTo ds ls 2 (fun k => k == 4) ds.length
def gpsL (ds : List Dv) (ls : List Lk) : List Int := thoTo ds ls 1 gapB ds.length
noncomputable def cntL (ns : List Nd) (ds : List Dv) (ls : List Lk) (z : List Int) : List Int := (nodesL ns.length (Rgn ds (gpsL ds ls) z)).filter (cntB ds (ersL ds ls))
def ListPost (w : World) (er : Int) (l : List Int) (e : Ending) (w' : World) : Prop :=
 (er ≠ 0 ∧ e = .returned (.tuple #[.slice none 0 0, .int .i64 er]) ∨ er = 0 ∧ ∃ (A : Option Addr) (k c : Nat), e = .returned (.tuple #[.slice A k c, .int .i64 0]) ∧ Hid (IntsO w' w.heap.size A k c l)) ∧ Hid (Below w.heap.size w w')
theorem grown_belowE {w w' : World} {B : Nat} {row : Option Nat} (h : w.grownBy w' row) (hB : B ≤ w.heap.size) (hr : ∀ g, row = some g → B ≤ g) : Below B w w' := ⟨h.os, h.tape, h.output, h.size, fun i hi => h.block i (by omega) (fun e => by have := hr i e.symm; omega)⟩
theorem Counted_any (An Ad Al Az : Option Addr) (nn cn nd cd nl cl n c : Nat) (ns : List Nd) (ds : List Dv) (ls : List Lk) (z : List Int) (w : World) (hl : Laid w) (hn : Sl w w.heap.size 3 An nn cn (ns.flatMap Nd.cells)) (hd : Sl w w.heap.size 5 Ad nd cd (ds.flatMap Dv.cells)) (hs : Sl w w.heap.size 3 Al nl cl (ls.flatMap Lk.cells)) (hz : Sl w w.heap.size 1 Az n c (intsV z))
 (hsn : ∀ x ∈ ns, x.name.size ≤ 9223372036854775807) (hsd : ∀ x ∈ ds, x.name.size ≤ 9223372036854775807) (hnz : n ≤ 10000) (hnd : nd ≤ 1000) :
 Calls Tryz.prog 117 #[.agg #[.slice An nn cn, .slice Ad nd cd], .slice Al nl cl, .slice Az n c] w (ListPost w (sideErr ns ds ls z) (cntL ns ds ls z)) := by
 have HLD := Lib.hid (hd.len (fun _ => rfl) (by decide))
 have HLN := Lib.hid (hn.len (fun _ => rfl) (by decide))
 have HB : Hid (Below w.heap.size w (w.alloc (.cells #[.slice An nn cn, .slice Ad nd cd] 30))) := (Below.refl _ _).alloc (Nat.le_refl _) _
 have HK := Lib.hid (Blk.new w 30 #[.slice An nn cn, .slice Ad nd cd])
 have HER := Lib.hid (earths_any An Ad Al nn cn nd cd nl cl w.heap.size w.heap.size w.heap.size ns ds ls (w.alloc (.cells #[.slice An nn cn, .slice Ad nd cd] 30)) (hl.alloc _) (hn.alloc (Nat.le_refl _) _) (hd.alloc (Nat.le_refl _) _) (hs.alloc (Nat.le_refl _) _) (by simp) (by simp) (by simp) hnd hsn hsd)
 have HLa := Lib.hid hl; have HN := Lib.hid hn; have HD := Lib.hid hd; have HS := Lib.hid hs; have HZ := Lib.hid hz; have HSN := Lib.hid hsn; have HSD := Lib.hid hsd
 clear hl hn hd hs hz hsn hsd
 go_enter Tryz.func117, Tryz.ntmps117
 go_wp2_with fail
 generalize World.alloc w _ = W at *
 refine HER.out.mono ?_
 rintro e w1 ⟨hcase, hb1⟩
 have HB1 := Lib.hid (HB.out.trans (hb1.out.mono HB.out.size))
 have HK1 := Lib.hid (HK.out.below hb1.out HK.out.lt)
 clear HB HK HER
 rcases hcase with ⟨he, rfl⟩ | ⟨he, Ae, ce, rfl, hoe⟩
 ·have HE : Hid (sideErr ns ds ls z = locksErr ns ds ls) := by unfold Hid sideErr; rw [if_pos he]
  have q : (locksErr ns ds ls != 0) = true := by simpa using he
  have HNZ := Lib.hid he
  clear he hb1
  have HB2 : Hid (Below w.heap.size w (w1.alloc (.cells #[.slice none 0 0] 22))) := HB1.out.alloc HB1.out.size _
  go_wp2_with fail
  go_ret2
  exact ⟨.inl ⟨by rw [HE.out]; exact HNZ.out, by rw [HE.out]; rfl⟩, HB2.out⟩
 have HZ0 := Lib.hid he
 have HE2 : Hid (sideErr ns ds ls z = zoneErr ns ds z) := by unfold Hid sideErr; rw [if_neg (by omega)]
 clear he hb1
 obtain ⟨er, hera⟩ : ∃ er, er = thoTo ds ls 2 (fun k => k == 4) nd := ⟨_, rfl⟩
 rw [← hera] at hoe ⊢
 have HERA := Lib.hid hera
 have HERR : Hid (∀ d ∈ er, 0 ≤ d ∧ d < nd) := fun d hd => tho_range (by rw [hera] at hd; exact hd)
 obtain ⟨ne, hnera⟩ : ∃ ne, ne = er.length := ⟨_, rfl⟩
 rw [← hnera] at hoe ⊢
 clear hera hnera
 have HKE := Lib.hid (Blk.new w1 22 #[.slice Ae ne ce])
 have HES : Hid (Sl (w1.alloc (.cells #[.slice Ae ne ce] 22)) w1.heap.size 1 Ae ne ce (intsV er)) := hoe.out.sl.alloc (Nat.le_refl _) _
 have HB2 : Hid (Below w.heap.size w (w1.alloc (.cells #[.slice Ae ne ce] 22))) := HB1.out.alloc HB1.out.size _
 have HK2 := Lib.hid (HK1.out.alloc (.cells #[.slice Ae ne ce] 22))
 have hz1 := HB1.out.size
 have hz2 : w1.heap.size < (w1.alloc (.cells #[.slice Ae ne ce] 22)).heap.size := by simp
 have hzb : w.heap.size < w1.heap.size := HK1.out.lt
 have k0 : (w1.alloc (.cells #[.slice Ae ne ce] 22)).cell? ⟨w.heap.size, 0, none⟩ = some (.slice An nn cn) := HK2.out.cell 0
 have k1 : (w1.alloc (.cells #[.slice Ae ne ce] 22)).cell? ⟨w.heap.size, 1, none⟩ = some (.slice Ad nd cd) := HK2.out.cell 1
 clear HB1 HK1 hoe
 go_upto_region 4 with (fail)
 generalize World.alloc w1 _ = W2 at *
 go_wp2_with fail
 clear k0 k1
 refine (gaps_any An Ad Al nn cn nd cd nl cl w.heap.size w.heap.size w.heap.size ns ds ls W2 (HLa.out.below HB2.out (Nat.le_refl _)) (HN.out.below HB2.out (Nat.le_refl _)) (HD.out.below HB2.out (Nat.le_refl _)) (HS.out.below HB2.out (Nat.le_refl _)) (by omega) (by omega) (by omega) hnd HSN.out HSD.out).mono ?_
 rintro e w3 ⟨⟨he3, _⟩ | ⟨_, Ag, cg, rfl, hog⟩, hb3⟩
 ·exact absurd HZ0.out he3
 have hz3 := hb3.out.size
 have HB3 := Lib.hid (HB2.out.trans (hb3.out.mono HB2.out.size))
 have HK3 := Lib.hid (HK2.out.below hb3.out HK2.out.lt)
 have HKE3 := Lib.hid (HKE.out.below hb3.out HKE.out.lt)
 have HES3 := Lib.hid (HES.out.below hb3.out (by omega))
 obtain ⟨gs, hgs⟩ : ∃ gs, gs = thoTo ds ls 1 gapB nd := ⟨_, rfl⟩
 rw [← hgs] at hog ⊢
 have HGS : Hid (gs = gpsL ds ls) := by unfold Hid gpsL; rw [hgs, HLD.out]
 have HGO : Hid (GapsOk ds gs) := by rw [HGS.out]; exact tho_ok ls
 obtain ⟨ng, hng⟩ : ∃ ng, ng = gs.length := ⟨_, rfl⟩
 rw [← hng] at hog ⊢
 clear hgs hng hb3 HB2 HK2 HKE HES
 have k0 : w3.cell? ⟨w.heap.size, 0, none⟩ = some (.slice An nn cn) := HK3.out.cell 0
 have k1 : w3.cell? ⟨w.heap.size, 1, none⟩ = some (.slice Ad nd cd) := HK3.out.cell 1
 go_wp2_with fail
 clear k0 k1
 refine (Region_any An Ad Az Ag nn cn nd cd n c ng cg ns ds z gs w3 (HLa.out.below HB3.out (Nat.le_refl _)) ((HN.out.below HB3.out (Nat.le_refl _)).more HB3.out.size) ((HD.out.below HB3.out (Nat.le_refl _)).more HB3.out.size) ((HZ.out.below HB3.out (Nat.le_refl _)).more HB3.out.size) hog.out.sl HSN.out HSD.out HGO.out hnz).mono ?_
 rintro e w4 ⟨hcase, hb4⟩
 have HB4 := Lib.hid (HB3.out.trans (hb4.out.mono HB3.out.size))
 rcases hcase with ⟨he, rfl⟩ | ⟨he, AR, k, cr, rfl, hR⟩
 ·have q : (zoneErr ns ds z != 0) = true := by simpa using he
  have HNZ := Lib.hid he
  clear he hb4 hog
  go_wp2_with fail
  go_ret2
  exact ⟨.inl ⟨by rw [HE2.out]; exact HNZ.out, by rw [HE2.out]; rfl⟩, HB4.out⟩
 have HEZ := Lib.hid he
 obtain ⟨hck, hzp, hzr⟩ := zoneErr_zero he
 have HOK := Lib.hid (NetOk.of hck)
 have hnl := HOK.out.nl
 have HKL : Hid (k ≤ 1000000) := by have h1 := hR.out.len; have h2 := nodesL_len ns.length (Rgn ds gs z); unfold Hid; omega
 have HK4 := Lib.hid (HK3.out.below hb4.out HK3.out.lt)
 have HKE4 := Lib.hid (HKE3.out.below hb4.out HKE3.out.lt)
 have HES4 := Lib.hid (HES3.out.below hb4.out (by omega))
 have hz4 := hb4.out.size
 have HR := Lib.hid hR.out
 clear he hck hzp hzr hnl hb4 hR hog HB3 HK3 HKE3 HES3
 have hrow : ∀ g, (Value.slice AR k cr).ownBlock = some g → w3.heap.size ≤ g := fun g hg => (HR.out.lt g hg).1
 have HCL : Hid (ClG 136 #[.pointer (some ⟨w1.heap.size, 0, none⟩), .pointer (some ⟨w.heap.size, 0, none⟩)] (fun v => !cntB ds er v) (Value.slice AR k cr).ownBlock w4) := by
  intro W' x hg
  have hs := hg.size
  refine cnt1_any w.heap.size w1.heap.size An Ad Ae nn cn nd cd ne ce w1.heap.size ds er x W' ?_ ?_ ?_ ?_ (by omega) HERR.out (by omega)
  ·exact hg.cell (HK4.out.cell 1) (fun e => by have := hrow _ e.symm; simp at this; omega)
  ·exact hg.cell (HKE4.out.cell 0) (fun e => by have := hrow _ e.symm; simp at this; omega)
  ·exact ((HD.out.below HB4.out (Nat.le_refl _)).grown hg (by omega) (fun g e => by have := hrow g e; omega)).more (by omega)
  ·exact HES4.out.grown hg (by omega) (fun g e => by have := hrow g e; omega)
 have HDF := Lib.hid (delg_any 136 _ _ (enters_of Tryz.func136 (by kernel_rfl) rfl) AR k cr w3.heap.size _ w4 HR.out HKL.out HCL.out)
 clear hrow HCL
 go_wp2_with fail
 refine HDF.out.mono ?_
 rintro e w5 ⟨m, rfl, hO, hg⟩
 have HRL := Lib.hid (fun g hg => (HR.out.lt g hg).1)
 go_wp2_with fail
 go_ret2
 refine ⟨.inr ⟨by rw [HE2.out, HEZ.out], AR, m, cr, rfl, ?_⟩, HB4.out.trans (grown_belowE hg.out (by omega) (fun g e => by have := HRL.out g e; omega))⟩
 have : cntL ns ds ls z = (nodesL ns.length (Rgn ds gs z)).filter fun x => !!cntB ds er x := by
  unfold cntL ersL
  rw [← HGS.out, HLD.out, ← HERA.out]
  congr 1
  funext x
  rw [Bool.not_not]
 rw [this]
 exact hO.out.mono (by omega)
end Go.Proofs.YtepicjpdhpojnaaGreatDoor
namespace Go.Proofs.YtepicjpdhpojnaaGreatDoor
open Go.RowKit
noncomputable def sideL (ns : List Nd) (ds : List Dv) (ls : List Lk) (z : List Int) : List Int := missL ds (cntL ns ds ls z) z
noncomputable def sidesB (ns : List Nd) (ds : List Dv) (ls : List Lk) (z : List Int) : Bool := (sideL ns ds ls z).isEmpty
def SidesPost (w : World) (er : Int) (b : Bool) (e : Ending) (w' : World) : Prop := e = .returned (.tuple #[.bool (decide (er = 0) && b), .int .i64 er]) ∧ Hid (Below w.heap.size w w')
theorem Missing_any (An Ad Al Az : Option Addr) (nn cn nd cd nl cl n c : Nat) (ns : List Nd) (ds : List Dv) (ls : List Lk) (z : List Int) (w : World) (hl : Laid w) (hn : Sl w w.heap.size 3 An nn cn (ns.flatMap Nd.cells)) (hd : Sl w w.heap.size 5 Ad nd cd (ds.flatMap Dv.cells)) (hs : Sl w w.heap.size 3 Al nl cl (ls.flatMap Lk.cells)) (hz : Sl w w.heap.size 1 Az n c (intsV z))
 (hsn : ∀ x ∈ ns, x.name.size ≤ 9223372036854775807) (hsd : ∀ x ∈ ds, x.name.size ≤ 9223372036854775807) (hnz : n ≤ 10000) (hnd : nd ≤ 1000) :
 Calls Tryz.prog 93 #[.agg #[.slice An nn cn, .slice Ad nd cd], .slice Al nl cl, .slice Az n c] w (ListPost w (sideErr ns ds ls z) (sideL ns ds ls z)) := by
 have HLN := Lib.hid (hn.len (fun _ => rfl) (by decide))
 have HB : Hid (Below w.heap.size w (w.alloc (.cells #[.slice An nn cn, .slice Ad nd cd] 30))) := (Below.refl _ _).alloc (Nat.le_refl _) _
 have HK := Lib.hid (Blk.new w 30 #[.slice An nn cn, .slice Ad nd cd])
 have HC := Lib.hid (Counted_any An Ad Al Az nn cn nd cd nl cl n c ns ds ls z (w.alloc (.cells #[.slice An nn cn, .slice Ad nd cd] 30)) (hl.alloc _) ((hn.alloc (Nat.le_refl _) _).more (by simp)) ((hd.alloc (Nat.le_refl _) _).more (by simp)) ((hs.alloc (Nat.le_refl _) _).more (by simp)) ((hz.alloc (Nat.le_refl _) _).more (by simp)) hsn hsd hnz hnd)
 have HD := Lib.hid hd; have HZ := Lib.hid hz
 have HLZ := Lib.hid (hz.len (fun _ => rfl) (by decide))
 clear hl hn hd hs hz hsn hsd
 go_enter Tryz.func93, Tryz.ntmps93
 go_wp2_with fail
 generalize World.alloc w _ = W at *
 refine HC.out.mono ?_
 rintro e w1 ⟨hcase, hb1⟩
 have HB1 := Lib.hid (HB.out.trans (hb1.out.mono HB.out.size))
 have HK1 := Lib.hid (HK.out.below hb1.out HK.out.lt)
 clear HB HK HC
 rcases hcase with ⟨he, rfl⟩ | ⟨he, Ae, ne, ce, rfl, hoe⟩
 ·have q : (sideErr ns ds ls z != 0) = true := by simpa using he
  have HNZ := Lib.hid he
  clear he hb1
  go_wp2_with fail
  go_ret2
  exact ⟨.inl ⟨HNZ.out, rfl⟩, HB1.out⟩
 have HEZ := Lib.hid he
 have HZE : Hid (zoneErr ns ds z = 0) := by
  unfold Hid
  unfold sideErr at he
  split at he
  ·next h => exact absurd he h
  ·exact he
 obtain ⟨hck, hzp, hzr⟩ := zoneErr_zero HZE.out
 have HOK := Lib.hid (NetOk.of hck)
 have hnl := HOK.out.nl
 have hnn : nn ≤ 10000 := by have := HLN.out; omega
 have HZI : Hid (∀ v ∈ z, 0 ≤ v ∧ v < nn) := fun v hv => by have := ris_mem hzr v hv; rw [HLN.out] at this; omega
 have HEN : Hid (EndsOk nn ds) := by have := HOK.out.e; rw [HLN.out] at this; exact this
 have HAO : Hid (AOk nn ds) := by have := HOK.out.a; rw [HLN.out] at this; exact this
 have HCV : Hid (∀ u ∈ cntL ns ds ls z, 0 ≤ u ∧ u < nn) := fun u hu => by have := nodesL_mem.1 (List.mem_filter.1 hu).1; rw [HLN.out] at this; exact ⟨this.1, this.2.1⟩
 clear he hck hzp hzr hnl
 have hzw := HB1.out.size
 have k0 : w1.cell? ⟨w.heap.size, 0, none⟩ = some (.slice An nn cn) := HK1.out.cell 0
 have k1 : w1.cell? ⟨w.heap.size, 1, none⟩ = some (.slice Ad nd cd) := HK1.out.cell 1
 go_wp2_with fail
 clear k0 k1
 refine (miss_any An Ad Az Ae nn cn nd cd n c ne ce ds (cntL ns ds ls z) z w1 ((HD.out.below HB1.out (Nat.le_refl _)).more hzw) ((HZ.out.below HB1.out (Nat.le_refl _)).more hzw) hoe.out.sl hnn HEN.out HAO.out HZI.out HCV.out hnz).mono ?_
 rintro e w2 ⟨A2, c2, rfl, hO, hb2⟩
 clear hb1 hoe
 go_wp2_with fail
 go_ret2
 exact ⟨.inr ⟨HEZ.out, A2, _, c2, rfl, hO.out.mono hzw⟩, HB1.out.trans (hb2.out.mono hzw)⟩
theorem Sides_any (An Ad Al Az : Option Addr) (nn cn nd cd nl cl n c : Nat) (ns : List Nd) (ds : List Dv) (ls : List Lk) (z : List Int) (w : World) (hl : Laid w) (hn : Sl w w.heap.size 3 An nn cn (ns.flatMap Nd.cells)) (hd : Sl w w.heap.size 5 Ad nd cd (ds.flatMap Dv.cells)) (hs : Sl w w.heap.size 3 Al nl cl (ls.flatMap Lk.cells)) (hz : Sl w w.heap.size 1 Az n c (intsV z))
 (hsn : ∀ x ∈ ns, x.name.size ≤ 9223372036854775807) (hsd : ∀ x ∈ ds, x.name.size ≤ 9223372036854775807) (hnz : n ≤ 10000) (hnd : nd ≤ 1000) :
 Calls Tryz.prog 57 #[.agg #[.slice An nn cn, .slice Ad nd cd], .slice Al nl cl, .slice Az n c] w (SidesPost w (sideErr ns ds ls z) (sidesB ns ds ls z)) := by
 have HB : Hid (Below w.heap.size w (w.alloc (.cells #[.slice An nn cn, .slice Ad nd cd] 30))) := (Below.refl _ _).alloc (Nat.le_refl _) _
 have HC := Lib.hid (Missing_any An Ad Al Az nn cn nd cd nl cl n c ns ds ls z (w.alloc (.cells #[.slice An nn cn, .slice Ad nd cd] 30)) (hl.alloc _) ((hn.alloc (Nat.le_refl _) _).more (by simp)) ((hd.alloc (Nat.le_refl _) _).more (by simp)) ((hs.alloc (Nat.le_refl _) _).more (by simp)) ((hz.alloc (Nat.le_refl _) _).more (by simp)) hsn hsd hnz hnd)
 have hzl := HB.out.size
 clear hl hn hd hs hz hsn hsd
 go_enter Tryz.func57, Tryz.ntmps57
 go_wp2_with fail
 generalize World.alloc w _ = W at *
 refine HC.out.mono ?_
 rintro e w1 ⟨hcase, hb1⟩
 have HB1 := Lib.hid (HB.out.trans (hb1.out.mono HB.out.size))
 clear HB HC
 rcases hcase with ⟨he, rfl⟩ | ⟨he, Ae, ne, ce, rfl, hoe⟩
 ·have q : (sideErr ns ds ls z == 0) = false := by simpa using he
  have HNZ := Lib.hid he
  clear he hb1
  go_wp2_with fail
  go_ret2
  exact ⟨by rw [decide_eq_false HNZ.out]; rfl, HB1.out⟩
 have HEZ := Lib.hid he
 have HSB : Hid (sidesB ns ds ls z = ((ne : Int) == 0)) := by
  unfold Hid sidesB
  have := hoe.out.len
  cases hh : sideL ns ds ls z <;> rw [hh] at this <;> simp at this ⊢ <;> omega
 clear he hb1 hoe
 go_wp2_with fail
 go_ret2
 exact ⟨by rw [HEZ.out, HSB.out]; rfl, HB1.out⟩
end Go.Proofs.YtepicjpdhpojnaaGreatDoor
namespace Go.Proofs.YtepicjpdhpojnaaGreatDoor
open Go.RowKit
structure PrI (nn : Nat) (ds : List Dv) (es : List Int) (v : Int) (out : List Bool) (met : Bool) : Prop where
 len : out.length = nn
 sound : ∀ u, marked out u → Rea ds es v u ∧ hasB es u = false
 base : marked out v
 met1 : met = true → ∃ u ∈ es, Rea ds es v u
def half (es : List Int) (out : List Bool) (met : Bool) (a b : Int) : Prop := marked out a → marked out b ∨ hasB es b = true ∧ met = true
def okP (ds : List Dv) (es : List Int) (out : List Bool) (met : Bool) (j : Nat) : Prop := ∀ x, ds[j]? = some x → joinsB x.kind = true → half es out met x.a x.b ∧ half es out met x.b x.a
theorem half.met {es : List Int} {out : List Bool} {met : Bool} {a b : Int} (h : half es out met a b) : half es out true a b := fun ha => (h ha).imp id fun h => ⟨h.1, rfl⟩
theorem okP.met {ds : List Dv} {es : List Int} {out : List Bool} {met : Bool} {j : Nat} (h : okP ds es out met j) : okP ds es out true j := fun x hx hj => ⟨(h x hx hj).1.met, (h x hx hj).2.met⟩
section
variable {nn : Nat} {ds : List Dv} {es : List Int} {v : Int} {out : List Bool} {met : Bool}
theorem PrI.reach (h : PrI nn ds es v out met) (hok : ∀ j, okP ds es out met j) {u : Int} (hr : Rea ds es v u) : marked out u ∨ hasB es u = true ∧ met = true := by
 unfold Rea at hr
 induction hr with
 | base hv => rw [List.mem_singleton.1 hv]; exact .inl h.base
 | step _ hS hx _ h0 ih =>
  rename_i u i x _ _
  have hm : marked out u := ih.resolve_right fun e => by rw [hS] at e; cases e.1
  obtain ⟨hj, ⟨e, e2⟩ | ⟨e, e2⟩⟩ := acr_two h0
  ·rw [e2]; rw [e] at hm; exact (hok i x hx hj).1 hm
  ·rw [e2]; rw [e] at hm; exact (hok i x hx hj).2 hm
theorem PrI.final (h : PrI nn ds es v out met) (hok : ∀ j, okP ds es out met j) (u : Int) : marked out u ↔ Rea ds es v u ∧ hasB es u = false :=
 ⟨h.sound u, fun hu => (h.reach hok hu.1).resolve_right fun e => by rw [hu.2] at e; cases e.1⟩
theorem PrI.finalMet (h : PrI nn ds es v out met) (hok : ∀ j, okP ds es out met j) : met = true ↔ ∃ u ∈ es, Rea ds es v u :=
 ⟨h.met1, fun ⟨u, hu, hr⟩ => by
  rcases h.reach hok hr with hm | hm
  ·have := (h.sound u hm).2
   rw [hasB_not] at this
   exact absurd hu this
  ·exact hm.2⟩
theorem Rea.step {j : Nat} {x : Dv} {a b : Int} (hr : Rea ds es v a) (hs : hasB es a = false) (hx : ds[j]? = some x) (hj : joinsB x.kind = true) (hab : x.a = a ∧ x.b = b ∨ x.b = a ∧ x.a = b) (hne : x.b ≠ x.a) (h0 : 0 ≤ b) : Rea ds es v b := by
 have h1 : acrB x a = b := by
  rcases hab with ⟨rfl, rfl⟩ | ⟨rfl, rfl⟩
  ·exact acr_a hj
  ·exact acr_b hj hne
 have := Rch.step (x := x) (i := j) (U := fun _ => true) (S := fun u => hasB es u) hr hs hx rfl (by rw [h1]; exact h0)
 rw [h1] at this
 exact this
theorem PrI.mark (h : PrI nn ds es v out met) {b : Nat} (hb : b < nn) (hr : Rea ds es v b) (hs : hasB es b = false) : PrI nn ds es v (out.set b true) met := by
 have hm := fun u => marked_set (out := out) (k := b) (by rw [h.len]; exact hb) u
 refine ⟨by rw [List.length_set]; exact h.len, fun u hu => ?_, (hm v).2 (.inr h.base), h.met1⟩
 rcases (hm u).1 hu with rfl | hu
 ·exact ⟨hr, hs⟩
 ·exact h.sound u hu
theorem PrI.meet (h : PrI nn ds es v out met) {b : Int} (hr : Rea ds es v b) (hs : hasB es b = true) : PrI nn ds es v out true :=
 ⟨h.len, h.sound, h.base, fun _ => ⟨b, (hasB_iff _ _).1 hs, hr⟩⟩
theorem rea_self (hs : hasB es v = true) {u : Int} (hr : Rea ds es v u) : u = v := by
 unfold Rea at hr
 induction hr with
 | base hv => exact List.mem_singleton.1 hv
 | step _ hS _ _ _ ih => rw [ih, hs] at hS; cases hS
theorem ptd_self (hs : hasB es v = true) : Ptd ds es v :=
 ⟨fun _ x _ _ hr => by rw [rea_self hs hr]; exact hs, v, (hasB_iff _ _).1 hs, Rch.base (by simp)⟩
theorem PrI.answer (h : PrI nn ds es v out met) (hok : ∀ j, okP ds es out met j) (hsrc : ∀ (i : Nat) (x : Dv), ds[i]? = some x → srcB x.kind = true → ¬ marked out x.a) : protB ds es v = met := by
 rcases met with _ | _
 ·refine protB_no fun hp => ?_
  have := (h.finalMet hok).2 hp.2
  cases this
 ·refine protB_iff.2 ⟨fun i x hx hk hr => ?_, (h.finalMet hok).1 rfl⟩
  rcases hh : hasB es x.a with _ | _
  ·exact absurd ((h.final hok x.a).2 ⟨hr, hh⟩) (hsrc i x hx hk)
  ·rfl
theorem PrI.bad (h : PrI nn ds es v out met) {i : Nat} {x : Dv} (hx : ds[i]? = some x) (hk : srcB x.kind = true) (hm : marked out x.a) : protB ds es v = false :=
 protB_no fun hp => by
  obtain ⟨h1, h2⟩ := h.sound _ hm
  have := hp.1 i x hx hk h1
  rw [h2] at this; cases this
end
end Go.Proofs.YtepicjpdhpojnaaGreatDoor
namespace Go.Proofs.YtepicjpdhpojnaaGreatDoor
open Go.RowKit
theorem rhasq_any (A : Option Addr) (n c : Nat) (l : List Int) (x : Int) (w : World) (hs : Sl w w.heap.size 1 A n c (intsV l)) :
 Calls Tryz.prog 24 #[.slice A n c, .int .i64 x] w fun e w' => e = .returned (.bool (hasB l x)) ∧ w = w' := by
 have h := rhas_any A n c l x w hs
 rwa [show decide (x ∈ l) = hasB l x by rw [Bool.eq_iff_iff, decide_eq_true_iff, hasB_iff]] at h
def Pr1 (w : World) (N : Array Value) (go nn : Nat) (ds : List Dv) (es : List Int) (v : Int) (gk : Nat) (mv cv : Value) (wr : World) : Prop := ∃ (met ch : Bool) (out : List Bool), mv = .bool met ∧ cv = .bool ch ∧ gk = (if ch = true then countF out + 1 else 0) ∧ Hid (ZhM w N go nn out wr) ∧ Hid (PrI nn ds es v out met) ∧ Hid (ch = false → ∀ j, okP ds es out met j)
def Pr2 (w : World) (N : Array Value) (go nn : Nat) (ds : List Dv) (es : List Int) (v : Int) (out0 : List Bool) (nd gk : Nat) (mv cv iv : Value) (wr : World) : Prop := ∃ (j : Nat) (met ch : Bool) (out : List Bool), mv = .bool met ∧ cv = .bool ch ∧ iv = .int .i64 j ∧ j ≤ nd ∧ gk = nd - j ∧ Hid (ZhM w N go nn out wr) ∧ Hid (PrI nn ds es v out met) ∧ Hid (ch = false → out = out0 ∧ ∀ q, q < j → okP ds es out met q) ∧ Hid (ch = true → countF out < countF out0)
def Pr3 (w : World) (N : Array Value) (go nn : Nat) (ds : List Dv) (es : List Int) (v : Int) (out0 : List Bool) (j vb : Nat) (D : Array Value) (xa xb : Int) (gk : Nat) (mv cv kv : Value) (wr : World) : Prop := ∃ (k : Nat) (met ch : Bool) (out : List Bool), mv = .bool met ∧ cv = .bool ch ∧ kv = .int .i64 k ∧ k ≤ 2 ∧ gk = 2 - k ∧ Hid (ZhM w N go nn out wr) ∧ Hid (Blk wr vb 38 D) ∧ Hid (PrI nn ds es v out met) ∧ Hid (ch = false → out = out0 ∧ (∀ q, q < j → okP ds es out met q) ∧ (1 ≤ k → half es out met xa xb) ∧ (2 ≤ k → half es out met xb xa)) ∧ Hid (ch = true → countF out < countF out0)
def Pr4 (w : World) (N : Array Value) (go nn : Nat) (ds : List Dv) (out : List Bool) (nd gk : Nat) (iv : Value) (wr : World) : Prop := ∃ i : Nat, iv = .int .i64 i ∧ i ≤ nd ∧ gk = nd - i ∧ Hid (ZhM w N go nn out wr) ∧ Hid (∀ (j : Nat) (x : Dv), j < i → ds[j]? = some x → srcB x.kind = true → ¬ marked out x.a)
theorem rprot_any (An Ad Ae : Option Addr) (nn cn nd cd ne ce : Nat) (ds : List Dv) (es : List Int) (v : Int) (w : World) (hd : Sl w w.heap.size 5 Ad nd cd (ds.flatMap Dv.cells)) (he : Sl w w.heap.size 1 Ae ne ce (intsV es))
 (hnn : nn ≤ 10000) (hends : EndsOk nn ds) (ha : AOk nn ds) (hneq : ∀ x ∈ ds, joinsB x.kind = true → x.b ≠ x.a) (hv : 0 ≤ v ∧ v < nn) :
 Calls Tryz.prog 121 #[.agg #[.slice An nn cn, .slice Ad nd cd], .int .i64 v, .slice Ae ne ce] w fun e w' => e = .returned (.bool (protB ds es v)) ∧ Below w.heap.size w w' := by
 obtain ⟨v, rfl⟩ := Int.eq_ofNat_of_zero_le hv.1
 have hvn : v < nn := by omega
 have HLD := Lib.hid (hd.len (fun _ => rfl) (by decide))
 have hdl := hd.le
 have HD := Lib.hid hd; have HG := Lib.hid he; have HE := Lib.hid hends; have HNE := Lib.hid hneq; have HAO := Lib.hid ha
 clear hd he hends hneq ha hv
 have hmk := run_mk_bool nn (by omega) (w.alloc (.cells #[.slice An nn cn, .slice Ad nd cd] 30))
 have hsz1 : (w.alloc (.cells #[.slice An nn cn, .slice Ad nd cd] 30)).heap.size = w.heap.size + 1 := by simp
 have HST : Hid (ZhM w #[.slice An nn cn, .slice Ad nd cd] (w.heap.size + 1) nn (List.replicate nn false) ((w.alloc (.cells #[.slice An nn cn, .slice Ad nd cd] 30)).alloc (.cells (boolsV (List.replicate nn false)).toArray 4))) := by
  refine ⟨(Blk.new w _ _).alloc _, ?_, ((Below.refl _ _).alloc (Nat.le_refl _) _).alloc (by simp) _⟩
  have := bools_new (w := w.alloc (.cells #[.slice An nn cn, .slice Ad nd cd] 30)) (base := w.heap.size + 1) (n := nn) (by simp) (by omega)
  rw [hsz1] at this
  exact this
 have HB : Hid (Below w.heap.size w (w.alloc (.cells #[.slice An nn cn, .slice Ad nd cd] 30))) := (Below.refl _ _).alloc (Nat.le_refl _) _
 have HH0 := Lib.hid (rhasq_any Ae ne ce es (v : Int) (w.alloc (.cells #[.slice An nn cn, .slice Ad nd cd] 30)) ((HG.out.below HB.out (Nat.le_refl _)).more HB.out.size))
 rw [hsz1] at hmk
 clear hsz1
 have k0 : (w.alloc (.cells #[.slice An nn cn, .slice Ad nd cd] 30)).cell? ⟨w.heap.size, 0, none⟩ = some (.slice An nn cn) := (Blk.new w _ _).cell 0
 go_enter Tryz.func121, Tryz.ntmps121
 go_wp2_with fail
 refine HH0.out.mono ?_
 rintro e w1 ⟨rfl, rfl⟩
 rcases hh : hasB es (v : Int) with _ | _; rotate_left
 ·have HP : Hid (protB ds es (v : Int) = true) := protB_iff.2 (ptd_self hh)
  clear hh
  go_wp2_with fail
  go_ret
  exact ⟨by rw [HP.out]; rfl, HB.out⟩
 have HHV := Lib.hid hh
 clear hh
 go_upto_region 4 with (fail)
 clear hmk k0 HB HH0
 obtain ⟨go, hgo⟩ : ∃ go, go = w.heap.size + 1 := ⟨_, rfl⟩
 rw [← hgo] at HST ⊢
 clear hgo
 generalize World.alloc (World.alloc _ _) _ = W at *
 obtain ⟨x, -, hcell, hfz⟩ := HST.out.cell hvn
 have HM0 := Lib.hid (HST.out.put hvn true)
 have HI0 : Hid (PrI nn ds es (v : Int) ((List.replicate nn false).set v true) false) := by
  have hl : (List.replicate nn false).length = nn := List.length_replicate
  have hm := fun u => marked_set (out := List.replicate nn false) (k := v) (by rw [hl]; exact hvn) u
  refine ⟨by rw [List.length_set]; exact hl, fun u hu => ?_, (hm v).2 (.inl rfl), fun e => by cases e⟩
  rcases (hm u).1 hu with rfl | hu
  ·exact ⟨Rch.base (by simp), HHV.out⟩
  ·exact absurd hu (marked_rep nn u)
 obtain ⟨o0, ho0⟩ : ∃ o0, o0 = (List.replicate nn false).set v true := ⟨_, rfl⟩
 rw [← ho0] at HM0 HI0
 clear ho0 HST
 go_upto_region 7 with (fail)
 clear hcell hfz
 generalize World.setCell _ _ _ = W2 at *
 go_loopg [8, 9] (countF o0 + 1) (Pr1 w #[.slice An nn cn, .slice Ad nd cd] go nn ds es v)
 case atStart => exact ⟨false, true, o0, rfl, rfl, rfl, HM0, HI0, fun e => by cases e⟩
 case round =>
  clear HM0 HI0
  obtain ⟨met, ch, oz, rfl, rfl, rfl, hM, hI, hok⟩ := hrel
  rcases ch with _ | _
  ·have HIF := Lib.hid hI.out; have HOKF := Lib.hid (hok.out rfl)
   clear hI hok
   go_wp2_with fail
   go_loopg [15] nd (Pr4 w #[.slice An nn cn, .slice Ad nd cd] go nn ds oz nd)
   case atStart => exact ⟨0, rfl, Nat.zero_le _, rfl, hM, fun j x hj => by omega⟩
   case round =>
    clear hM
    obtain ⟨i, rfl, hi, rfl, hM, hS⟩ := hrel
    have k1 : wr.cell? ⟨w.heap.size, 1, none⟩ = some (.slice Ad nd cd) := hM.out.bn.cell 1
    by_cases hlt : i < nd; rotate_left
    ·obtain rfl : i = nd := by omega
     have hii : decide (i < i) = false := by simp
     have HANS : Hid (protB ds es (v : Int) = met) := HIF.out.answer HOKF.out fun j x hx hk => by
      by_cases hq : j < i
      ·exact hS.out j x hq hx hk
      ·rw [List.getElem?_eq_none (by rw [HLD.out]; omega)] at hx; cases hx
     go_wp2_with fail
     go_ret
     exact ⟨by rw [HANS.out]; rfl, hM.out.bl⟩
    obtain ⟨b0, off, x, rfl, hb0, hx, hcx⟩ := (HD.out.below hM.out.bl (Nat.le_refl _)).at (k := i) (fun _ => rfl) (by decide) hlt
    have HX := Lib.hid hx
    have har := HAO.out x (List.mem_of_getElem? hx)
    obtain ⟨nm, kd, xa, xb, co⟩ := x
    obtain ⟨a, hae⟩ := Int.eq_ofNat_of_zero_le har.1
    (try dsimp only at hae)
    subst hae
    have hla : a < nn := by have := har.2; (try dsimp only at this); omega
    have c0 : wr.cell? ⟨b0, off + i * 5, none⟩ = some (.string nm) := hcx 0 _ rfl
    have c1 : wr.cell? ⟨b0, off + i * 5 + 1, none⟩ = some (.int .i64 kd) := hcx 1 _ rfl
    have c2 : wr.cell? ⟨b0, off + i * 5 + 2, none⟩ = some (.int .i64 (a : Int)) := hcx 2 _ rfl
    have c3 : wr.cell? ⟨b0, off + i * 5 + 3, none⟩ = some (.int .i64 xb) := hcx 3 _ rfl
    have c4 : wr.cell? ⟨b0, off + i * 5 + 4, none⟩ = some (.int .i64 co) := hcx 4 _ rfl
    clear hx hcx hb0 har
    go_upto_region 29 with (fail)
    clear c0 c1 c2 c3 c4 k1
    have HV := Lib.hid (Blk.new wr 38 #[.string nm, .int .i64 kd, .int .i64 (a : Int), .int .i64 xb, .int .i64 co])
    have HM2 := Lib.hid (hM.out.later ((Below.refl _ _).alloc (Nat.le_refl _) (.cells #[.string nm, .int .i64 kd, .int .i64 (a : Int), .int .i64 xb, .int .i64 co] 38)))
    clear hM
    obtain ⟨vb, hvb⟩ : ∃ x, x = wr.heap.size := ⟨_, rfl⟩
    rw [← hvb] at HV ⊢
    clear hvb
    generalize World.alloc wr _ = W3 at *
    have hkd : W3.cell? ⟨vb, 1, none⟩ = some (.int .i64 kd) := HV.out.cell 1
    have hxa : W3.cell? ⟨vb, 2, none⟩ = some (.int .i64 (a : Int)) := HV.out.cell 2
    obtain ⟨pa, hpa, hca, hfa⟩ := HM2.out.cell (k := a) hla
    have HPA := Lib.hid hpa
    clear hpa
    rcases pa with _ | _
    ·have HN : Hid (∀ (j : Nat) (x : Dv), j < i + 1 → ds[j]? = some x → srcB x.kind = true → ¬ marked oz x.a) := fun j x hj hx hk hm => (Nat.lt_succ_iff_lt_or_eq.1 hj).elim (fun h => hS.out j x h hx hk hm) (fun h => by rw [h, HX.out] at hx; injection hx with hx; subst hx; (try dsimp only at hm); rw [marked_nat, HPA.out] at hm; cases hm)
     go_wp2_with fail
     go_roundg (nd - (i + 1))
     case rel => exact ⟨i + 1, by go_num, by omega, rfl, HM2, HN⟩
     case measure => omega
    rcases hk5 : (kd == 5) with _ | _; rotate_left
    ·have HBAD : Hid (protB ds es (v : Int) = false) := HIF.out.bad HX.out (by unfold srcB; (try dsimp only); rw [hk5]; rfl) (marked_nat.2 HPA.out)
     go_wp2_with fail
     go_ret
     exact ⟨by rw [HBAD.out]; rfl, HM2.out.bl⟩
    rcases hk6 : (kd == 6) with _ | _; rotate_left
    ·have HBAD : Hid (protB ds es (v : Int) = false) := HIF.out.bad HX.out (by unfold srcB; (try dsimp only); rw [hk5, hk6]; rfl) (marked_nat.2 HPA.out)
     go_wp2_with fail
     go_ret
     exact ⟨by rw [HBAD.out]; rfl, HM2.out.bl⟩
    have HN : Hid (∀ (j : Nat) (x : Dv), j < i + 1 → ds[j]? = some x → srcB x.kind = true → ¬ marked oz x.a) := fun j x hj hx hk hm => (Nat.lt_succ_iff_lt_or_eq.1 hj).elim (fun h => hS.out j x h hx hk hm) (fun h => by rw [h, HX.out] at hx; injection hx with hx; subst hx; unfold srcB at hk; (try dsimp only at hk); rw [hk5, hk6] at hk; cases hk)
    go_wp2_with fail
    go_roundg (nd - (i + 1))
    case rel => exact ⟨i + 1, by go_num, by omega, rfl, HM2, HN⟩
    case measure => omega
  clear hok
  go_wp2_with fail
  go_loopg [8, 9, 10] nd (Pr2 w #[.slice An nn cn, .slice Ad nd cd] go nn ds es v oz nd)
  case atStart => exact ⟨0, met, false, oz, rfl, rfl, rfl, Nat.zero_le _, rfl, hM, hI, fun _ => ⟨rfl, fun j hj => by omega⟩, fun e => by cases e⟩
  case round =>
   clear hM hI
   obtain ⟨j, met, ch, out, rfl, rfl, rfl, hj, rfl, hM, hI, hno, hyes⟩ := hrel
   have k1 : wr.cell? ⟨w.heap.size, 1, none⟩ = some (.slice Ad nd cd) := hM.out.bn.cell 1
   by_cases hlt : j < nd; rotate_left
   ·obtain rfl : j = nd := by omega
    have hii : decide (j < j) = false := by simp
    have HOKA : Hid (ch = false → ∀ q, okP ds es out met q) := fun e q => by
     by_cases hq : q < j
     ·exact (hno.out e).2 q hq
     ·intro x hx; rw [List.getElem?_eq_none (by rw [HLD.out]; omega)] at hx; cases hx
    go_wp2_with fail
    go_roundg (if ch = true then countF out + 1 else 0)
    case rel => exact ⟨met, ch, out, rfl, rfl, rfl, hM, hI, HOKA⟩
    case measure =>
     rcases ch with _ | _
     ·simp
     ·have := hyes.out rfl; simp; omega
   obtain ⟨b0, off, x, rfl, hb0, hx, hcx⟩ := (HD.out.below hM.out.bl (Nat.le_refl _)).at (k := j) (fun _ => rfl) (by decide) hlt
   have HX := Lib.hid hx
   have hxm := List.mem_of_getElem? hx
   have HEX := Lib.hid (HE.out x hxm)
   have HNX := Lib.hid (HNE.out x hxm)
   obtain ⟨nm, kd, xa, xb, co⟩ := x
   have c0 : wr.cell? ⟨b0, off + j * 5, none⟩ = some (.string nm) := hcx 0 _ rfl
   have c1 : wr.cell? ⟨b0, off + j * 5 + 1, none⟩ = some (.int .i64 kd) := hcx 1 _ rfl
   have c2 : wr.cell? ⟨b0, off + j * 5 + 2, none⟩ = some (.int .i64 xa) := hcx 2 _ rfl
   have c3 : wr.cell? ⟨b0, off + j * 5 + 3, none⟩ = some (.int .i64 xb) := hcx 3 _ rfl
   have c4 : wr.cell? ⟨b0, off + j * 5 + 4, none⟩ = some (.int .i64 co) := hcx 4 _ rfl
   clear hx hxm hcx hb0
   go_upto_region 13 with (fail)
   clear c0 c1 c2 c3 c4 k1
   have HV := Lib.hid (Blk.new wr 38 #[.string nm, .int .i64 kd, .int .i64 xa, .int .i64 xb, .int .i64 co])
   have HM2 := Lib.hid (hM.out.later ((Below.refl _ _).alloc (Nat.le_refl _) (.cells #[.string nm, .int .i64 kd, .int .i64 xa, .int .i64 xb, .int .i64 co] 38)))
   have hgo1 := hM.out.ge (by omega)
   have hgo2 : go < wr.heap.size := by
    obtain ⟨g, x, e, h1, h2, -⟩ := hM.out.ob.at (by omega : 0 < nn)
    injection e with e; injection e with e; subst e
    exact h2
   clear hM
   obtain ⟨vb, hvb⟩ : ∃ x, x = wr.heap.size := ⟨_, rfl⟩
   rw [← hvb] at HV hgo2 ⊢
   clear hvb
   generalize World.alloc wr _ = W3 at *
   have hkd : W3.cell? ⟨vb, 1, none⟩ = some (.int .i64 kd) := HV.out.cell 1
   go_wp2_with fail
   refine (rjoins_any kd W3).mono ?_
   rintro e w4 ⟨rfl, rfl⟩
   clear hkd
   rcases hj0 : joinsB kd with _ | _
   ·have HOK : Hid (ch = false → out = oz ∧ ∀ q, q < j + 1 → okP ds es out met q) := fun e => ⟨(hno.out e).1, fun q hq => (Nat.lt_succ_iff_lt_or_eq.1 hq).elim (fun h => (hno.out e).2 q h) (fun h => by rw [h]; intro x hx hjx; rw [HX.out] at hx; injection hx with hx; subst hx; rw [hj0] at hjx; cases hjx)⟩
    clear hj0
    go_wp2_with fail
    go_roundg (nd - (j + 1))
    case rel => exact ⟨j + 1, met, ch, out, rfl, rfl, by go_num, by omega, rfl, HM2, hI, HOK, hyes⟩
    case measure => omega
   have hab := HEX.out hj0
   have hne0 := HNX.out hj0
   obtain ⟨a, ha⟩ := Int.eq_ofNat_of_zero_le hab.1.1
   obtain ⟨b, hb⟩ := Int.eq_ofNat_of_zero_le hab.2.1
   (try dsimp only at ha hb)
   subst ha hb
   have hla : a < nn := by have := hab.1.2; (try dsimp only at this); omega
   have hlb : b < nn := by have := hab.2.2; (try dsimp only at this); omega
   have hneab : b ≠ a := fun e => hne0 (by (try dsimp only); rw [e])
   have HJ := Lib.hid hj0
   clear hab hne0 HEX HNX hj0
   go_wp2_with fail
   go_loopg [8, 9, 12] 2 (Pr3 w #[.slice An nn cn, .slice (some ⟨b0, off, none⟩) nd cd] go nn ds es v oz j vb #[.string nm, .int .i64 kd, .int .i64 a, .int .i64 b, .int .i64 co] a b)
   case atStart => exact ⟨0, met, ch, out, rfl, rfl, rfl, by decide, rfl, HM2, HV, hI, fun e => ⟨(hno.out e).1, (hno.out e).2, fun h => by omega, fun h => by omega⟩, hyes⟩
   case round =>
    clear HM2 HV hI hno hyes
    obtain ⟨k, met, ch, out, rfl, rfl, rfl, hk, rfl, hM, hV, hI, hno, hyes⟩ := hrel
    have hk3 : k = 0 ∨ k = 1 ∨ k = 2 := by omega
    clear hk
    rcases hk3 with rfl | rfl | rfl; rotate_left 2
    ·have HOK : Hid (ch = false → out = oz ∧ ∀ q, q < j + 1 → okP ds es out met q) := fun e => ⟨(hno.out e).1, fun q hq => (Nat.lt_succ_iff_lt_or_eq.1 hq).elim (fun h => (hno.out e).2.1 q h) (fun h => by rw [h]; intro x hx hjx; rw [HX.out] at hx; injection hx with hx; subst hx; exact ⟨(hno.out e).2.2.1 (by decide), (hno.out e).2.2.2 (by decide)⟩)⟩
     go_wp2_with fail
     go_roundg (nd - (j + 1))
     case rel => exact ⟨j + 1, met, ch, out, rfl, rfl, by go_num, by omega, rfl, hM, hI, HOK, hyes⟩
     case measure => omega
    ·have hxa : wr.cell? ⟨vb, 2, none⟩ = some (.int .i64 (a : Int)) := hV.out.cell 2
     have hxb : wr.cell? ⟨vb, 3, none⟩ = some (.int .i64 (b : Int)) := hV.out.cell 3
     go_wp2_with fail
     go_quiet (fail)
     clear hxa hxb
     have HM3 : Hid (ZhM w #[.slice An nn cn, .slice (some ⟨b0, off, none⟩) nd cd] go nn out (wr.drewN nq)) := ⟨hM.out.bn, hM.out.ob, below_drewN' hM.out.bl nq⟩
     have HV3 : Hid (Blk (wr.drewN nq) vb 38 #[.string nm, .int .i64 kd, .int .i64 (a : Int), .int .i64 (b : Int), .int .i64 co]) := hV.out
     clear hM hV
     generalize wr.drewN nq = W4 at *
     obtain ⟨pa, hpa, hca, hfa⟩ := HM3.out.cell (k := a) hla
     obtain ⟨pb, hpb, hcb, hfb⟩ := HM3.out.cell (k := b) hlb
     have HPA := Lib.hid hpa; have HPB := Lib.hid hpb
     clear hpa hpb
     rcases pa with _ | _
     ·have HH : Hid (half es out met (a : Int) (b : Int)) := fun h => by rw [marked_nat, HPA.out] at h; cases h
      go_wp2_with fail
      go_roundg (2 - (0 + 1))
      case rel => exact ⟨0 + 1, met, ch, out, rfl, rfl, by go_num, by decide, rfl, HM3, HV3, hI, fun e => ⟨(hno.out e).1, (hno.out e).2.1, fun _ => HH.out, fun h => by omega⟩, hyes⟩
      case measure => omega
     rcases pb with _ | _; rotate_left
     ·have HH : Hid (half es out met (a : Int) (b : Int)) := fun _ => .inl (marked_nat.2 HPB.out)
      go_wp2_with fail
      go_roundg (2 - (0 + 1))
      case rel => exact ⟨0 + 1, met, ch, out, rfl, rfl, by go_num, by decide, rfl, HM3, HV3, hI, fun e => ⟨(hno.out e).1, (hno.out e).2.1, fun _ => HH.out, fun h => by omega⟩, hyes⟩
      case measure => omega
     have HRB : Hid (Rea ds es (v : Int) (b : Int)) := by
      obtain ⟨h1, h2⟩ := hI.out.sound _ (marked_nat.2 HPA.out)
      exact Rea.step h1 h2 HX.out HJ.out (.inl ⟨rfl, rfl⟩) (by (try dsimp only); omega) (by omega)
     have HGS : Hid (Sl W4 W4.heap.size 1 Ae ne ce (intsV es)) := (HG.out.below HM3.out.bl (Nat.le_refl _)).more HM3.out.bl.size
     go_wp2_with fail
     refine (rhasq_any Ae ne ce es (b : Int) W4 HGS.out).mono ?_
     rintro e w5 ⟨rfl, rfl⟩
     rcases hh : hasB es (b : Int) with _ | _; rotate_left
     ·have HI2 := Lib.hid (hI.out.meet HRB.out hh)
      have HH : Hid (half es out true (a : Int) (b : Int)) := fun _ => .inr ⟨hh, rfl⟩
      clear hh
      go_wp2_with fail
      go_roundg (2 - (0 + 1))
      case rel => exact ⟨0 + 1, true, ch, out, rfl, rfl, by go_num, by decide, rfl, HM3, HV3, HI2, fun e => ⟨(hno.out e).1, fun q hq => ((hno.out e).2.1 q hq).met, fun _ => HH.out, fun h => by omega⟩, hyes⟩
      case measure => omega
     have HI2 := Lib.hid (hI.out.mark hlb HRB.out hh)
     have HM4 := Lib.hid (HM3.out.put hlb true)
     have HV4 : Hid (Blk (W4.setCell ⟨go, b, none⟩ (.bool true)) vb 38 #[.string nm, .int .i64 kd, .int .i64 (a : Int), .int .i64 (b : Int), .int .i64 co]) := HV3.out.far (by simp; omega) _
     have HCT : Hid (countF (out.set b true) < countF oz) := by
      have h1 := countF_set HPB.out
      unfold Hid
      rcases ch with _ | _
      ·rw [← (hno.out rfl).1]; omega
      ·have := hyes.out rfl; omega
     clear hh hI hno hyes
     go_wp2_with fail
     go_roundg (2 - (0 + 1))
     case rel => exact ⟨0 + 1, met, true, out.set b true, rfl, rfl, by go_num, by decide, rfl, HM4, HV4, HI2, (fun e => by cases e), fun _ => HCT.out⟩
     case measure => omega
    ·have hxa : wr.cell? ⟨vb, 2, none⟩ = some (.int .i64 (a : Int)) := hV.out.cell 2
     have hxb : wr.cell? ⟨vb, 3, none⟩ = some (.int .i64 (b : Int)) := hV.out.cell 3
     go_wp2_with fail
     go_quiet (fail)
     clear hxa hxb
     have HM3 : Hid (ZhM w #[.slice An nn cn, .slice (some ⟨b0, off, none⟩) nd cd] go nn out (wr.drewN nq)) := ⟨hM.out.bn, hM.out.ob, below_drewN' hM.out.bl nq⟩
     have HV3 : Hid (Blk (wr.drewN nq) vb 38 #[.string nm, .int .i64 kd, .int .i64 (a : Int), .int .i64 (b : Int), .int .i64 co]) := hV.out
     clear hM hV
     generalize wr.drewN nq = W4 at *
     obtain ⟨pa, hpa, hca, hfa⟩ := HM3.out.cell (k := b) hlb
     obtain ⟨pb, hpb, hcb, hfb⟩ := HM3.out.cell (k := a) hla
     have HPA := Lib.hid hpa; have HPB := Lib.hid hpb
     clear hpa hpb
     rcases pa with _ | _
     ·have HH : Hid (half es out met (b : Int) (a : Int)) := fun h => by rw [marked_nat, HPA.out] at h; cases h
      go_wp2_with fail
      go_roundg (2 - (1 + 1))
      case rel => exact ⟨1 + 1, met, ch, out, rfl, rfl, by go_num, by decide, rfl, HM3, HV3, hI, fun e => ⟨(hno.out e).1, (hno.out e).2.1, fun _ => (hno.out e).2.2.1 (by decide), fun _ => HH.out⟩, hyes⟩
      case measure => omega
     rcases pb with _ | _; rotate_left
     ·have HH : Hid (half es out met (b : Int) (a : Int)) := fun _ => .inl (marked_nat.2 HPB.out)
      go_wp2_with fail
      go_roundg (2 - (1 + 1))
      case rel => exact ⟨1 + 1, met, ch, out, rfl, rfl, by go_num, by decide, rfl, HM3, HV3, hI, fun e => ⟨(hno.out e).1, (hno.out e).2.1, fun _ => (hno.out e).2.2.1 (by decide), fun _ => HH.out⟩, hyes⟩
      case measure => omega
     have HRB : Hid (Rea ds es (v : Int) (a : Int)) := by
      obtain ⟨h1, h2⟩ := hI.out.sound _ (marked_nat.2 HPA.out)
      exact Rea.step h1 h2 HX.out HJ.out (.inr ⟨rfl, rfl⟩) (by (try dsimp only); omega) (by omega)
     have HGS : Hid (Sl W4 W4.heap.size 1 Ae ne ce (intsV es)) := (HG.out.below HM3.out.bl (Nat.le_refl _)).more HM3.out.bl.size
     go_wp2_with fail
     refine (rhasq_any Ae ne ce es (a : Int) W4 HGS.out).mono ?_
     rintro e w5 ⟨rfl, rfl⟩
     rcases hh : hasB es (a : Int) with _ | _; rotate_left
     ·have HI2 := Lib.hid (hI.out.meet HRB.out hh)
      have HH : Hid (half es out true (b : Int) (a : Int)) := fun _ => .inr ⟨hh, rfl⟩
      clear hh
      go_wp2_with fail
      go_roundg (2 - (1 + 1))
      case rel => exact ⟨1 + 1, true, ch, out, rfl, rfl, by go_num, by decide, rfl, HM3, HV3, HI2, fun e => ⟨(hno.out e).1, fun q hq => ((hno.out e).2.1 q hq).met, fun _ => ((hno.out e).2.2.1 (by decide)).met, fun _ => HH.out⟩, hyes⟩
      case measure => omega
     have HI2 := Lib.hid (hI.out.mark hla HRB.out hh)
     have HM4 := Lib.hid (HM3.out.put hla true)
     have HV4 : Hid (Blk (W4.setCell ⟨go, a, none⟩ (.bool true)) vb 38 #[.string nm, .int .i64 kd, .int .i64 (a : Int), .int .i64 (b : Int), .int .i64 co]) := HV3.out.far (by simp; omega) _
     have HCT : Hid (countF (out.set a true) < countF oz) := by
      have h1 := countF_set HPB.out
      unfold Hid
      rcases ch with _ | _
      ·rw [← (hno.out rfl).1]; omega
      ·have := hyes.out rfl; omega
     clear hh hI hno hyes
     go_wp2_with fail
     go_roundg (2 - (1 + 1))
     case rel => exact ⟨1 + 1, met, true, out.set a true, rfl, rfl, by go_num, by decide, rfl, HM4, HV4, HI2, (fun e => by cases e), fun _ => HCT.out⟩
     case measure => omega
end Go.Proofs.YtepicjpdhpojnaaGreatDoor
