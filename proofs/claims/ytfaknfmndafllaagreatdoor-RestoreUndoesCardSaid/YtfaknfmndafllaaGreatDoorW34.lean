import Derived.Test.YtfaknfmndafllaaGreatDoorW33
import Derived.Test.YtfaknfmndafllaaGreatDoorW23
set_option maxRecDepth 100000
set_option maxHeartbeats 8000000
namespace Go.Proofs.YtfaknfmndafllaaGreatDoor
open Go.RowKit
theorem pgoal_any (nb zb sb : Nat) (An Ad As A Az : Option Addr) (nn cn nd cd n cs c nz cz : Nat) (ns : List Nd) (ds : List Dv) (s t z : List Int) (W : World) (hl : Laid W) (hn : Sl W W.heap.size 3 An nn cn (ns.flatMap Nd.cells)) (hd : Sl W W.heap.size 5 Ad nd cd (ds.flatMap Dv.cells)) (hs : Sl W W.heap.size 1 As n cs (intsV s)) (ht : Sl W W.heap.size 1 A n c (intsV t)) (hz : Sl W W.heap.size 1 Az nz cz (intsV z))
 (hN : Blk W nb 30 #[.slice An nn cn, .slice Ad nd cd]) (hZ : Blk W zb 22 #[.slice Az nz cz]) (hS : Blk W sb 22 #[.slice As n cs])
 (hsn : ∀ x ∈ ns, x.name.size ≤ 9223372036854775807) (hsd : ∀ x ∈ ds, x.name.size ≤ 9223372036854775807) (hnz : nz ≤ 10000) (hse : stateErr ns ds s = 0) (hte : stateErr ns ds t = 0) (hze : zoneErr ns ds z = 0) :
 Calls Tryz.prog 57 #[.slice A n c, .pointer (some ⟨nb, 0, none⟩), .pointer (some ⟨zb, 0, none⟩), .pointer (some ⟨sb, 0, none⟩)] W fun e W' => (∃ (x : Int) (ok : Bool), e = .returned (.tuple #[.int .i64 x, .bool ok]) ∧ goalZ ns ds z s t = if ok then some x else none) ∧ Below W.heap.size W W' := by
 obtain ⟨hck, hsl⟩ := stateErr_net hse
 have HOK := Lib.hid (NetOk.of hck)
 have HLN := Lib.hid (hn.len (fun _ => rfl) (by decide))
 have hln := hd.len (fun _ => rfl) (by decide); have hls := hs.len (fun _ => rfl) (by decide)
 have hnd : nd ≤ 64 ∧ nd ≤ n ∧ n ≤ nd := by have := HOK.out.dl; omega
 have hnn : nn ≤ 10000 := by have := HOK.out.nl; rw [HLN.out] at this; omega
 have HC1 := Lib.hid (psecured_any An Ad A Az nn cn nd cd n c nz cz ns ds t z W hl hn hd ht hz hsn hsd hnz hte hze)
 have HN := Lib.hid hN; have HZ := Lib.hid hZ; have HS := Lib.hid hS
 have HLA := Lib.hid hl; have HRN := Lib.hid hn; have HRD := Lib.hid hd; have HRS := Lib.hid hs; have HRT := Lib.hid ht; have HSN := Lib.hid hsn; have HSD := Lib.hid hsd; have HSE := Lib.hid hse; have HTE := Lib.hid hte
 clear hl hn hd hs ht hz hN hZ hS hsn hsd hse hte hze hck hsl hln hls
 have HG : Hid (goalZ ns ds z s t = if secu ns ds z t = true then some (lostC ns ds s t) else none) := rfl
 go_enter Tryz.func57, Tryz.ntmps57
 have n0 := HN.out.cell 0; have n1 := HN.out.cell 1; have z0 := HZ.out.cell 0
 go_wp2_with fail
 refine HC1.out.mono ?_
 rintro e w1 ⟨rfl, hb1⟩
 have HB1 := Lib.hid hb1
 have hz1 := hb1.size
 clear hb1 n0 n1 z0 HC1
 rcases hb : secu ns ds z t with _ | _
 ·rw [hb] at HG
  clear hb
  go_wp2_with fail
  go_ret2
  exact ⟨⟨0, false, rfl, HG.out⟩, HB1.out⟩
 rw [hb] at HG
 clear hb
 have n0 := (HN.out.below HB1.out HN.out.lt).cell 0; have n1 := (HN.out.below HB1.out HN.out.lt).cell 1; have s0 := (HS.out.below HB1.out HS.out.lt).cell 0
 go_wp2_with fail
 refine (Lost_ok An Ad As A nn cn nd cd n cs n c W.heap.size W.heap.size W.heap.size W.heap.size ns ds s t w1 (HLA.out.below HB1.out (Nat.le_refl _)) (HRN.out.below HB1.out (Nat.le_refl _)) hz1 (HRD.out.below HB1.out (Nat.le_refl _)) hz1 (HRS.out.below HB1.out (Nat.le_refl _)) hz1 (HRT.out.below HB1.out (Nat.le_refl _)) hz1 HSN.out HSD.out HSE.out HTE.out hnn (by omega) hnd.2.1 hnd.2.1 (by rw [← HLN.out]; exact HOK.out.e) (by rw [← HLN.out]; exact HOK.out.a)).mono ?_
 rintro e w2 ⟨Ao, m, co, out, _, rfl, -, -, -, hb2⟩
 have HE := Lib.hid (HB1.out.trans (hb2.out.mono hz1))
 clear hb2 n0 n1 s0
 go_wp2_with fail
 go_ret2
 exact ⟨⟨lostC ns ds s t, true, rfl, HG.out⟩, HE.out⟩
def plErr (ns : List Nd) (ds : List Dv) (s : List Int) (co : Int) (ls : List Lk) (pr z : List Int) : Int := if stateErr ns ds s ≠ 0 then stateErr ns ds s else if pbErr ns ds s co ls pr ≠ 0 then pbErr ns ds s co ls pr else zoneErr ns ds z
noncomputable def plSt (ns : List Nd) (ds : List Dv) (co : Int) (ls : List Lk) (pr : List Int) : List Int → Nat → Option (List Int) := stS (permB ns ds co ls pr [3, 5]) (mvF ds ls co) (mvS ds ls co ds.length).length
def PlnPost (w : World) (ns : List Nd) (ds : List Dv) (s : List Int) (co : Int) (ls : List Lk) (pr z : List Int) (e : Ending) (w' : World) : Prop :=
 ((plErr ns ds s co ls pr z ≠ 0 ∧ e = .returned (.tuple #[.slice none 0 0, .int .i64 (plErr ns ds s co ls pr z)])) ∨ (plErr ns ds s co ls pr z = 0 ∧ ((NoneIs (plSt ns ds co ls pr) s (goalZ ns ds z s) ∧ e = .returned (.tuple #[.slice none 0 0, .int .i64 15])) ∨ ∃ (p : List Nat) (A : Option Addr) (c : Nat), SomeIs (plSt ns ds co ls pr) s (goalZ ns ds z s) p ∧ p.length ≤ 1024 ∧ e = .returned (.tuple #[.slice A p.length c, .int .i64 0]) ∧ w'.ownsRow w.heap.size 62 2 (.slice A p.length c) p.length (opsV (opsP (mvF ds ls co) s p))))) ∧ Hid (Below w.heap.size w w')
theorem psearch_any (An Ad As Al Ap Az : Option Addr) (nn cn nd cd n c nl cl np cp nz cz : Nat) (ns : List Nd) (ds : List Dv) (s z : List Int) (ls : List Lk) (pr : List Int) (co : Int) (w : World) (h : HzMem w An Ad As Al Ap nn cn nd cd n c nl cl np cp ns ds s ls pr) (hz : Sl w w.heap.size 1 Az nz cz (intsV z)) (hnz : nz ≤ 10000) :
 Calls Tryz.prog 28 #[.agg #[.slice An nn cn, .slice Ad nd cd], .slice As n c, .agg #[.int .i64 co, .slice Al nl cl, .slice Ap np cp], .slice Az nz cz] w (PlnPost w ns ds s co ls pr z) := by
 obtain ⟨hln, hld, hls⟩ := h.ln
 have HH := Lib.hid h; have HZ := Lib.hid hz
 have HLN : Hid (s.length = n ∧ ds.length = nd) := ⟨hls, hld⟩
 clear h hz hln hld hls
 have HB := Lib.hid (Bxs.new4 w (30, #[.slice An nn cn, .slice Ad nd cd]) (22, #[.slice As n c]) (40, #[.int .i64 co, .slice Al nl cl, .slice Ap np cp]) (22, #[.slice Az nz cz]))
 go_enter Tryz.func28, Tryz.ntmps28
 go_upto_region 1 with (fail)
 dsimp only at HB
 generalize World.alloc (World.alloc (World.alloc (World.alloc w _) _) _) _ = W at *
 have HM := Lib.hid (HH.out.below HB.out.l)
 have b0 := HB.out.b0.cell 0; have b1 := HB.out.b0.cell 1; have b2 := HB.out.b1.cell 0
 have HC := Lib.hid (mstate_any An Ad As nn cn nd cd n c W.heap.size W.heap.size W.heap.size ns ds s W HM.out.la HM.out.hn HM.out.hd HM.out.hs (Nat.le_refl _) (Nat.le_refl _) (Nat.le_refl _) HM.out.sn HM.out.sd)
 go_wp2_with fail
 refine HC.out.mono ?_
 rintro e w1 ⟨rfl, hb1⟩
 have HB1 := Lib.hid (HB.out.later hb1)
 clear HC HB HM hb1 b0 b1 b2
 by_cases h1 : stateErr ns ds s = 0; rotate_left
 ·have q1 : (stateErr ns ds s != 0) = true := by simpa using h1
  have HE : Hid (plErr ns ds s co ls pr z = stateErr ns ds s) := by unfold Hid plErr; rw [if_pos h1]
  have HNE := Lib.hid h1
  clear h1
  go_wp2_with fail
  go_ret2
  exact ⟨.inl ⟨by rw [HE.out]; exact HNE.out, by rw [HE.out]; rfl⟩, HB1.out.l⟩
 have HS0 := Lib.hid h1
 have HE1 : Hid (plErr ns ds s co ls pr z = if pbErr ns ds s co ls pr ≠ 0 then pbErr ns ds s co ls pr else zoneErr ns ds z) := by unfold Hid plErr; rw [if_neg (by rw [h1]; simp)]
 have q1 : (stateErr ns ds s != 0) = false := by simpa using h1
 clear h1
 have HLA1 : Hid (Below w.heap.size w (w1.alloc (.cells #[.int .i64 3, .int .i64 5] 3))) := HB1.out.l.alloc HB1.out.l.size _
 have HB2 := Lib.hid (HB1.out.later ((Below.refl _ _).alloc (Nat.le_refl _) (.cells #[.int .i64 3, .int .i64 5] 3)))
 have HM2 := Lib.hid (HH.out.below HLA1.out)
 have HBT : Hid (Sl (w1.alloc (.cells #[.int .i64 3, .int .i64 5] 3)) (w1.alloc (.cells #[.int .i64 3, .int .i64 5] 3)).heap.size 1 (some ⟨w1.heap.size, 0, none⟩) 2 2 (intsV [3, 5])) := by
  have := Sl.newest (w := w1) (cs := #[.int .i64 3, .int .i64 5]) (T := 3) (fr := (0, 0)) (n := 2) (size := 1) rfl rfl (by decide)
  exact this.more (by simp)
 have HC := Lib.hid (problem_any An Ad As Al Ap (some ⟨w1.heap.size, 0, none⟩) nn cn nd cd n c nl cl np cp 2 2 ns ds s ls pr [3, 5] co (w1.alloc (.cells #[.int .i64 3, .int .i64 5] 3)) HM2.out HS0.out HBT.out)
 have n0 := HB1.out.b0.cell 0; have n1 := HB1.out.b0.cell 1; have n2 := HB1.out.b1.cell 0; have g0 := HB1.out.b2.cell 0; have g1 := HB1.out.b2.cell 1; have g2 := HB1.out.b2.cell 2
 go_wp2_with fail
 refine HC.out.mono ?_
 rintro e w3 ⟨hpb, hb3⟩
 clear HC n0 n1 n2 g0 g1 g2 q1
 have HL3 := Lib.hid (HLA1.out.trans (hb3.out.mono HLA1.out.size))
 rcases hpb with ⟨h1, rfl⟩ | ⟨h1, nb, gb, bb, cm, Am, rfl, hP, hMv⟩
 ·have q1 : (pbErr ns ds s co ls pr == 0) = false := by simpa using h1
  have q2 : (pbErr ns ds s co ls pr != 0) = true := by simpa using h1
  have HNE := Lib.hid h1
  have HE : Hid (plErr ns ds s co ls pr z = pbErr ns ds s co ls pr) := by unfold Hid; rw [HE1.out, if_pos h1]
  have HL4 := Lib.hid (HL3.out.alloc HL3.out.size (.cells #[.slice none 0 0, .slice none 0 0, .nilFunc] 90))
  clear h1 hb3 HB1 HB2 HM2 HBT HLA1
  go_wp2_with fail
  go_ret2
  exact ⟨.inl ⟨by rw [HE.out]; exact HNE.out, by rw [HE.out]; rfl⟩, HL4.out⟩
 have HE2 : Hid (plErr ns ds s co ls pr z = zoneErr ns ds z) := by unfold Hid; rw [HE1.out, if_neg (by rw [h1]; simp)]
 obtain ⟨hck, hgr, hm10⟩ := mvErr_ok (pbErr_ok h1)
 have hlens2 := (stateErr_net HS0.out).2
 have hd64 := (NetOk.of hck).dl
 have hn64 : n ≤ 64 := by have := HLN.out; omega
 have HMO : Hid (∀ i, i < (mvS ds ls co ds.length).length → mvF ds ls co i < n) := fun i hi => by have := mvF_lt hi; have := HLN.out; omega
 have HLV := Lib.hid (HL3.out.alloc HL3.out.size (.cells #[.slice As n c, (.slice Am (mvS ds ls co ds.length).length cm), (.func (.func 72) #[] #[.pointer (some ⟨nb, 0, none⟩), .pointer (some ⟨gb, 0, none⟩), .pointer (some ⟨bb, 0, none⟩)])] 90))
 have HBV : Hid (Below w3.heap.size w3 (w3.alloc (.cells #[.slice As n c, (.slice Am (mvS ds ls co ds.length).length cm), (.func (.func 72) #[] #[.pointer (some ⟨nb, 0, none⟩), .pointer (some ⟨gb, 0, none⟩), .pointer (some ⟨bb, 0, none⟩)])] 90))) := (Below.refl _ _).alloc (Nat.le_refl _) _
 have HPX := Lib.hid (Blk.new w3 90 #[.slice As n c, (.slice Am (mvS ds ls co ds.length).length cm), (.func (.func 72) #[] #[.pointer (some ⟨nb, 0, none⟩), .pointer (some ⟨gb, 0, none⟩), .pointer (some ⟨bb, 0, none⟩)])])
 have HPC := Lib.hid (hP.out.later HBV.out)
 have HMC := Lib.hid ((hMv.out.below HBV.out (Nat.le_refl _)).more HBV.out.size)
 have HBX := Lib.hid (HB2.out.later (hb3.out.trans (HBV.out.mono hb3.out.size)))
 clear hP hMv hb3 HB1 HB2 HM2 HBT HLA1 HL3 HBV h1 hck hgr hlens2 hd64 HE1
 go_upto_region 6 with (fail)
 obtain ⟨x, hx⟩ : ∃ x, x = w3.heap.size := ⟨_, rfl⟩
 rw [← hx] at HPX ⊢
 clear hx
 generalize World.alloc w3 _ = V at *
 have HMV := Lib.hid (HH.out.below HLV.out)
 have HZV := Lib.hid ((HZ.out.below HLV.out (Nat.le_refl _)).more HLV.out.size)
 have HC := Lib.hid (zcheck_any An Ad Az nn cn nd cd nz cz ns ds z V HMV.out.la HMV.out.hn HMV.out.hd HZV.out HMV.out.sn HMV.out.sd)
 have n0 := HBX.out.b0.cell 0; have n1 := HBX.out.b0.cell 1; have z0 := HBX.out.b3.cell 0
 go_wp2_with fail
 refine HC.out.mono ?_
 rintro e w4 ⟨rfl, hb4⟩
 have HL4 := Lib.hid (HLV.out.trans (hb4.mono HLV.out.size))
 have HB4 := Lib.hid (HBX.out.later hb4)
 have HP4 := Lib.hid (HPX.out.below hb4 HPX.out.lt)
 have HPC4 := Lib.hid (HPC.out.later hb4)
 have HMC4 := Lib.hid ((HMC.out.below hb4 (Nat.le_refl _)).more hb4.size)
 clear HC n0 n1 z0 HBX HPX HPC HMC HMV HZV hb4 HLV
 by_cases hze : zoneErr ns ds z = 0; rotate_left
 ·have q2 : (zoneErr ns ds z != 0) = true := by simpa using hze
  have HNE := Lib.hid hze
  clear hze
  go_wp2_with fail
  go_ret2
  exact ⟨.inl ⟨by rw [HE2.out]; exact HNE.out, by rw [HE2.out]; rfl⟩, HL4.out⟩
 have q2 : (zoneErr ns ds z != 0) = false := by simpa using hze
 have HSZ : Hid (plErr ns ds s co ls pr z = 0) := by unfold Hid; rw [HE2.out]; exact hze
 have HZE := Lib.hid hze
 clear hze HE2
 have HM4 := Lib.hid (HH.out.below HL4.out)
 have HZ4 := Lib.hid ((HZ.out.below HL4.out (Nat.le_refl _)).more HL4.out.size)
 have HGC : Hid (GoalC w4 57 #[] #[.pointer (some ⟨w.heap.size, 0, none⟩), .pointer (some ⟨w.heap.size + 3, 0, none⟩), .pointer (some ⟨w.heap.size + 1, 0, none⟩)] n (mvS ds ls co ds.length).length s (mvF ds ls co) (goalZ ns ds z s)) := by
  intro V2 A2 c2 b hb hA _
  have hm := HM4.out.below hb
  have hk := HB4.out.later hb
  exact pgoal_any w.heap.size (w.heap.size + 3) (w.heap.size + 1) An Ad As A2 Az nn cn nd cd n c c2 nz cz ns ds s _ z V2 hm.la hm.hn hm.hd hm.hs hA ((HZ4.out.below hb (Nat.le_refl _)).more hb.size) hk.b0 hk.b3 hk.b1 hm.sn hm.sd hnz HS0.out (stateErr_sb HS0.out _ _ _) HZE.out
 have HC := Lib.hid (ptfind_any 72 57 #[.pointer (some ⟨nb, 0, none⟩), .pointer (some ⟨gb, 0, none⟩), .pointer (some ⟨bb, 0, none⟩)] #[] #[.pointer (some ⟨w.heap.size, 0, none⟩), .pointer (some ⟨w.heap.size + 3, 0, none⟩), .pointer (some ⟨w.heap.size + 1, 0, none⟩)] As Am n c (mvS ds ls co ds.length).length cm s (mvF ds ls co) (permB ns ds co ls pr [3, 5]) (goalZ ns ds z s) w4 HM4.out.hs HMC4.out hn64 hm10 HMO.out (stateErr_pos HS0.out) (mvF_asc ds ls co).inj (enters_of Tryz.func72 (by kernel_rfl) rfl) (enters_of Tryz.func57 (by kernel_rfl) rfl) HPC4.out HGC.out)
 have p0 := HP4.out.cell 0; have p1 := HP4.out.cell 1; have p2 := HP4.out.cell 2
 clear HGC
 go_wp2_with fail
 refine HC.out.mono ?_
 rintro e w5 ⟨hf, hb5⟩
 have HL5 := Lib.hid (HL4.out.trans (hb5.out.mono HL4.out.size))
 have HSV := Lib.hid HL4.out.size
 clear HC p0 p1 p2 HP4 HPC4 HMC4 HM4 HZ4 hb5 HL4
 rcases hf with ⟨rfl, hno⟩ | ⟨p, A, cA, rfl, hso, hpl, hO⟩
 ·have HNO := Lib.hid hno
  clear hno
  go_wp2_with fail
  go_ret2
  exact ⟨.inr ⟨HSZ.out, .inl ⟨HNO.out, rfl⟩⟩, HL5.out⟩
 ·have HSO := Lib.hid hso
  have HPL : Hid (p.length ≤ 1024) := Nat.le_trans hpl (Nat.pow_le_pow_right (n := 2) (by decide) hm10)
  have HO := Lib.hid hO
  clear hso hpl hO
  go_wp2_with fail
  go_ret2
  exact ⟨.inr ⟨HSZ.out, .inr ⟨p, A, cA, HSO.out, HPL.out, rfl, HO.out.mono HSV.out⟩⟩, HL5.out⟩
end Go.Proofs.YtfaknfmndafllaaGreatDoor
