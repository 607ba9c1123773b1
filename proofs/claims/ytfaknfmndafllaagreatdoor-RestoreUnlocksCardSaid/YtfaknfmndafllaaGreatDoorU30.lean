import Derived.Test.YtfaknfmndafllaaGreatDoorU29
import Derived.Test.YtfaknfmndafllaaGreatDoorU04
import Derived.Test.YtfaknfmndafllaaGreatDoorU22
import Derived.Test.YtfaknfmndafllaaGreatDoorU28
import Derived.Test.YtfaknfmndafllaaGreatDoorU20
set_option maxRecDepth 100000
set_option maxHeartbeats 8000000
namespace Go.Proofs.YtfaknfmndafllaaGreatDoor
open Go.RowKit
def stsE (ns : List Nd) (ds : List Dv) (s t : List Int) : Int := if stateErr ns ds s ≠ 0 then stateErr ns ds s else stateErr ns ds t
theorem rstates_any (An Ad As At : Option Addr) (nn cn nd cd n c n2 c2 : Nat) (ns : List Nd) (ds : List Dv) (s t : List Int) (w : World) (hla : Laid w) (hn : Sl w w.heap.size 3 An nn cn (ns.flatMap Nd.cells)) (hd : Sl w w.heap.size 5 Ad nd cd (ds.flatMap Dv.cells)) (hs : Sl w w.heap.size 1 As n c (intsV s)) (ht : Sl w w.heap.size 1 At n2 c2 (intsV t)) (hsn : ∀ x ∈ ns, x.name.size ≤ 9223372036854775807) (hsd : ∀ x ∈ ds, x.name.size ≤ 9223372036854775807) :
 Calls Tryz.prog 38 #[.agg #[.slice An nn cn, .slice Ad nd cd], .slice As n c, .slice At n2 c2] w fun e w' => e = .returned (.int .i64 (stsE ns ds s t)) ∧ Below w.heap.size w w' := by
 have HBL : Hid (Below w.heap.size w (w.alloc (.cells #[.slice An nn cn, .slice Ad nd cd] 30))) := (Below.refl _ _).alloc (Nat.le_refl _) _
 have HB := Lib.hid (Blk.new w 30 #[.slice An nn cn, .slice Ad nd cd])
 have HN := Lib.hid hn; have HD := Lib.hid hd; have HS := Lib.hid hs; have HT := Lib.hid ht; have HLA := Lib.hid hla; have HSN := Lib.hid hsn; have HSD := Lib.hid hsd
 clear hla hn hd hs ht hsn hsd
 go_enter Tryz.func38, Tryz.ntmps38
 go_upto_region 1 with (fail)
 generalize World.alloc w _ = W at *
 have n0 := HB.out.cell 0; have n1 := HB.out.cell 1
 have HC := Lib.hid (mstate_any An Ad As nn cn nd cd n c w.heap.size w.heap.size w.heap.size ns ds s W (HLA.out.below HBL.out (Nat.le_refl _)) (HN.out.below HBL.out (Nat.le_refl _)) (HD.out.below HBL.out (Nat.le_refl _)) (HS.out.below HBL.out (Nat.le_refl _)) HBL.out.size HBL.out.size HBL.out.size HSN.out HSD.out)
 go_wp2_with fail
 refine HC.out.mono ?_
 rintro e w1 ⟨rfl, hb1⟩
 have HB1 := Lib.hid (HB.out.below hb1 HB.out.lt)
 have HL1 := Lib.hid (HBL.out.trans (hb1.mono HBL.out.size))
 clear HC HB HBL n0 n1 hb1
 by_cases h1 : stateErr ns ds s = 0; rotate_left
 ·have q1 : (stateErr ns ds s != 0) = true := by simpa using h1
  have HE : Hid (stsE ns ds s t = stateErr ns ds s) := by unfold Hid stsE; rw [if_pos h1]
  clear h1
  go_wp2_with fail
  go_ret
  exact ⟨by rw [HE.out]; rfl, HL1.out⟩
 have HE : Hid (stsE ns ds s t = stateErr ns ds t) := by unfold Hid stsE; rw [if_neg (by rw [h1]; simp)]
 have q1 : (stateErr ns ds s != 0) = false := by simpa using h1
 clear h1
 have n0 := HB1.out.cell 0; have n1 := HB1.out.cell 1
 have HC := Lib.hid (mstate_any An Ad At nn cn nd cd n2 c2 w.heap.size w.heap.size w.heap.size ns ds t w1 (HLA.out.below HL1.out (Nat.le_refl _)) (HN.out.below HL1.out (Nat.le_refl _)) (HD.out.below HL1.out (Nat.le_refl _)) (HT.out.below HL1.out (Nat.le_refl _)) HL1.out.size HL1.out.size HL1.out.size HSN.out HSD.out)
 go_wp2_with fail
 refine HC.out.mono ?_
 rintro e w2 ⟨rfl, hb2⟩
 have HL2 := Lib.hid (HL1.out.trans (hb2.mono HL1.out.size))
 clear HC n0 n1 hb2
 go_wp2_with fail
 go_ret
 exact ⟨by rw [HE.out]; rfl, HL2.out⟩
def srErr (ns : List Nd) (ds : List Dv) (s t : List Int) (co : Int) (ls : List Lk) (pr : List Int) : Int := if stsE ns ds s t ≠ 0 then stsE ns ds s t else pbErr ns ds s co ls pr
def goalT (t σ : List Int) : Option Int := if σ = t then some 0 else none
theorem pbErr_ok {ns : List Nd} {ds : List Dv} {s : List Int} {co : Int} {ls : List Lk} {pr : List Int} (h : pbErr ns ds s co ls pr = 0) : mvErr ns ds co ls pr = 0 := by
 unfold pbErr at h
 split at h
 ·next h1 => exact absurd h h1
 ·next h1 => simpa using h1
theorem goal_is {w : World} {At : Option Addr} {n c2 m : Nat} {s t : List Int} {M : Nat → Nat} (ht : Sl w w.heap.size 1 At n c2 (intsV t)) (hn : n ≤ 1000000) : GoalC w 40 #[.slice At n c2] #[] n m s M (goalT t) := by
 intro W A c b hb hA _
 refine (tgis_any A At n c c2 (sbN s M b m) t W hA ((ht.below hb (Nat.le_refl _)).more hb.size) hn).mono ?_
 rintro e w' ⟨rfl, h⟩
 refine ⟨⟨0, decide (sbN s M b m = t), rfl, ?_⟩, h⟩
 unfold goalT
 by_cases e : sbN s M b m = t <;> simp [e]
def SrcPost (w : World) (ns : List Nd) (ds : List Dv) (s t : List Int) (co : Int) (ls : List Lk) (pr : List Int) (e : Ending) (w' : World) : Prop :=
 ((srErr ns ds s t co ls pr ≠ 0 ∧ e = .returned (.tuple #[.slice none 0 0, .int .i64 (srErr ns ds s t co ls pr)])) ∨ (srErr ns ds s t co ls pr = 0 ∧ ((NoneIs (stS (permB ns ds co ls pr [5]) (mvF ds ls co) (mvS ds ls co ds.length).length) s (goalT t) ∧ e = .returned (.tuple #[.slice none 0 0, .int .i64 15])) ∨ ∃ (p : List Nat) (A : Option Addr) (c : Nat), SomeIs (stS (permB ns ds co ls pr [5]) (mvF ds ls co) (mvS ds ls co ds.length).length) s (goalT t) p ∧ p.length ≤ 1024 ∧ e = .returned (.tuple #[.slice A p.length c, .int .i64 0]) ∧ w'.ownsRow w.heap.size 62 2 (.slice A p.length c) p.length (opsV (opsP (mvF ds ls co) s p))))) ∧ Hid (Below w.heap.size w w')
theorem rsearch_any (An Ad As Al Ap At : Option Addr) (nn cn nd cd n c nl cl np cp n2 c2 : Nat) (ns : List Nd) (ds : List Dv) (s t : List Int) (ls : List Lk) (pr : List Int) (co : Int) (w : World) (h : HzMem w An Ad As Al Ap nn cn nd cd n c nl cl np cp ns ds s ls pr) (ht : Sl w w.heap.size 1 At n2 c2 (intsV t)) :
 Calls Tryz.prog 13 #[.agg #[.slice An nn cn, .slice Ad nd cd], .slice As n c, .agg #[.int .i64 co, .slice Al nl cl, .slice Ap np cp], .slice At n2 c2] w (SrcPost w ns ds s t co ls pr) := by
 obtain ⟨hln, hld, hls⟩ := h.ln
 have hlt := ht.len (fun _ => rfl) (by decide)
 have HH := Lib.hid h; have HT := Lib.hid ht
 have HLN : Hid (s.length = n ∧ ds.length = nd ∧ t.length = n2) := ⟨hls, hld, hlt⟩
 clear h ht hln hld hls hlt
 have HB := Lib.hid (Bxg.new w #[.slice An nn cn, .slice Ad nd cd] #[.int .i64 co, .slice Al nl cl, .slice Ap np cp])
 go_enter Tryz.func13, Tryz.ntmps13
 go_upto_region 1 with (fail)
 generalize World.alloc (World.alloc w _) _ = W at *
 have HM := Lib.hid (HH.out.below HB.out.bl)
 have n0 := HB.out.bn.cell 0; have n1 := HB.out.bn.cell 1
 have HC := Lib.hid (rstates_any An Ad As At nn cn nd cd n c n2 c2 ns ds s t W HM.out.la HM.out.hn HM.out.hd HM.out.hs ((HT.out.below HB.out.bl (Nat.le_refl _)).more HB.out.bl.size) HM.out.sn HM.out.sd)
 go_wp2_with fail
 refine HC.out.mono ?_
 rintro e w1 ⟨rfl, hb1⟩
 have HB1 := Lib.hid (HB.out.later hb1)
 clear HC HB HM hb1 n0 n1
 by_cases h1 : stsE ns ds s t = 0; rotate_left
 ·have q1 : (stsE ns ds s t != 0) = true := by simpa using h1
  have HE : Hid (srErr ns ds s t co ls pr = stsE ns ds s t) := by unfold Hid srErr; rw [if_pos h1]
  have HNE := Lib.hid h1
  clear h1
  go_wp2_with fail
  go_ret2
  exact ⟨.inl ⟨by rw [HE.out]; exact HNE.out, by rw [HE.out]; rfl⟩, HB1.out.bl⟩
 have HSE : Hid (srErr ns ds s t co ls pr = pbErr ns ds s co ls pr) := by unfold Hid srErr; rw [if_neg (by rw [h1]; simp)]
 have q1 : (stsE ns ds s t != 0) = false := by simpa using h1
 have HS0 : Hid (stateErr ns ds s = 0) := by
  unfold stsE at h1
  split at h1
  ·next h2 => exact absurd h1 h2
  ·next h2 => unfold Hid; simpa using h2
 have HT0 : Hid (stateErr ns ds t = 0) := by unfold stsE at h1; rw [if_neg (by rw [HS0.out]; simp)] at h1; exact h1
 clear h1
 have HLA1 : Hid (Below w.heap.size w (w1.alloc (.cells #[.int .i64 5] 3))) := HB1.out.bl.alloc HB1.out.bl.size _
 have HB2 := Lib.hid (HB1.out.later ((Below.refl _ _).alloc (Nat.le_refl _) (.cells #[.int .i64 5] 3)))
 have HM2 := Lib.hid (HH.out.below HLA1.out)
 have HBT : Hid (Sl (w1.alloc (.cells #[.int .i64 5] 3)) (w1.alloc (.cells #[.int .i64 5] 3)).heap.size 1 (some ⟨w1.heap.size, 0, none⟩) 1 1 (intsV [5])) := by
  have := Sl.newest (w := w1) (cs := #[.int .i64 5]) (T := 3) (fr := (0, 0)) (n := 1) (size := 1) rfl rfl (by decide)
  exact this.more (by simp)
 have HC := Lib.hid (problem_any An Ad As Al Ap (some ⟨w1.heap.size, 0, none⟩) nn cn nd cd n c nl cl np cp 1 1 ns ds s ls pr [5] co (w1.alloc (.cells #[.int .i64 5] 3)) HM2.out HS0.out HBT.out)
 have n0 := HB1.out.bn.cell 0; have n1 := HB1.out.bn.cell 1; have g0 := HB1.out.bg.cell 0; have g1 := HB1.out.bg.cell 1; have g2 := HB1.out.bg.cell 2
 go_wp2_with fail
 refine HC.out.mono ?_
 rintro e w3 ⟨hpb, hb3⟩
 clear HC n0 n1 g0 g1 g2 q1
 have HL3 := Lib.hid (HLA1.out.trans (hb3.out.mono HLA1.out.size))
 rcases hpb with ⟨h1, rfl⟩ | ⟨h1, nb, gb, bb, cm, Am, rfl, hP, hMv⟩
 ·have q1 : (pbErr ns ds s co ls pr != 0) = true := by simpa using h1
  have HNE := Lib.hid h1
  have HL4 := Lib.hid (HL3.out.alloc HL3.out.size (.cells #[.slice none 0 0, .slice none 0 0, .nilFunc] 90))
  clear h1 hb3 HB1 HB2 HM2 HBT HLA1
  go_wp2_with fail
  go_ret2
  exact ⟨.inl ⟨by rw [HSE.out]; exact HNE.out, by rw [HSE.out]; rfl⟩, HL4.out⟩
 have HSZ : Hid (srErr ns ds s t co ls pr = 0) := by unfold Hid; rw [HSE.out]; exact h1
 obtain ⟨hck, hgr, hm10⟩ := mvErr_ok (pbErr_ok h1)
 have hlens := (stateErr_net HT0.out).2
 have hlens2 := (stateErr_net HS0.out).2
 have hd64 := (NetOk.of hck).dl
 have hn2 : n = n2 := by have := HLN.out; omega
 have hn64 : n ≤ 64 := by have := HLN.out; omega
 have HMO : Hid (∀ i, i < (mvS ds ls co ds.length).length → mvF ds ls co i < n) := fun i hi => by have := mvF_lt hi; have := HLN.out; omega
 subst hn2
 have HLV := Lib.hid (HL3.out.alloc HL3.out.size (.cells #[.slice As n c, (.slice Am (mvS ds ls co ds.length).length cm), (.func (.func 72) #[] #[.pointer (some ⟨nb, 0, none⟩), .pointer (some ⟨gb, 0, none⟩), .pointer (some ⟨bb, 0, none⟩)])] 90))
 have HBV : Hid (Below w3.heap.size w3 (w3.alloc (.cells #[.slice As n c, (.slice Am (mvS ds ls co ds.length).length cm), (.func (.func 72) #[] #[.pointer (some ⟨nb, 0, none⟩), .pointer (some ⟨gb, 0, none⟩), .pointer (some ⟨bb, 0, none⟩)])] 90))) := (Below.refl _ _).alloc (Nat.le_refl _) _
 have HPX := Lib.hid (Blk.new w3 90 #[.slice As n c, (.slice Am (mvS ds ls co ds.length).length cm), (.func (.func 72) #[] #[.pointer (some ⟨nb, 0, none⟩), .pointer (some ⟨gb, 0, none⟩), .pointer (some ⟨bb, 0, none⟩)])])
 have HPC := Lib.hid (hP.out.later HBV.out)
 have HMC := Lib.hid ((hMv.out.below HBV.out (Nat.le_refl _)).more HBV.out.size)
 clear hP hMv hb3 HB1 HB2 HM2 HBT HLA1 HL3 HBV h1 hck hgr hlens hlens2 hd64
 go_upto_region 8 with (fail)
 obtain ⟨x, hx⟩ : ∃ x, x = w3.heap.size := ⟨_, rfl⟩
 rw [← hx] at HPX ⊢
 clear hx
 generalize World.alloc w3 _ = V at *
 have HMV := Lib.hid (HH.out.below HLV.out)
 have HTV := Lib.hid ((HT.out.below HLV.out (Nat.le_refl _)).more HLV.out.size)
 have HC := Lib.hid (ptfind_any 72 40 #[.pointer (some ⟨nb, 0, none⟩), .pointer (some ⟨gb, 0, none⟩), .pointer (some ⟨bb, 0, none⟩)] #[.slice At n c2] #[] As Am n c (mvS ds ls co ds.length).length cm s (mvF ds ls co) (permB ns ds co ls pr [5]) (goalT t) V HMV.out.hs HMC.out hn64 hm10 HMO.out (stateErr_pos HS0.out) (mvF_asc ds ls co).inj (enters_of Tryz.func72 (by kernel_rfl) rfl) (enters_of Tryz.func40 (by kernel_rfl) rfl) HPC.out (goal_is HTV.out (by omega)))
 have p0 := HPX.out.cell 0; have p1 := HPX.out.cell 1; have p2 := HPX.out.cell 2
 go_wp2_with fail
 refine HC.out.mono ?_
 rintro e w4 ⟨hf, hb4⟩
 have HL4 := Lib.hid (HLV.out.trans (hb4.out.mono HLV.out.size))
 have HSV := Lib.hid HLV.out.size
 clear HC p0 p1 p2 HPX HPC HMC HMV HTV hb4 HLV
 rcases hf with ⟨rfl, hno⟩ | ⟨p, A, cA, rfl, hso, hpl, hO⟩
 ·have HNO := Lib.hid hno
  clear hno
  go_wp2_with fail
  go_ret2
  exact ⟨.inr ⟨HSZ.out, .inl ⟨HNO.out, rfl⟩⟩, HL4.out⟩
 ·have HSO := Lib.hid hso
  have HPL : Hid (p.length ≤ 1024) := Nat.le_trans hpl (Nat.pow_le_pow_right (n := 2) (by decide) hm10)
  have HO := Lib.hid hO
  clear hso hpl hO
  go_wp2_with fail
  go_ret2
  exact ⟨.inr ⟨HSZ.out, .inr ⟨p, A, cA, HSO.out, HPL.out, rfl, HO.out.mono HSV.out⟩⟩, HL4.out⟩
end Go.Proofs.YtfaknfmndafllaaGreatDoor
namespace Go.Proofs.YtfaknfmndafllaaGreatDoor
open Go.RowKit
theorem kcell {w w' : World} {p : Addr} {v : Value} (hb : Below w.heap.size w w') (h : w.cell? p = some v) : w'.cell? p = some v := (hb.cell (World.block_lt_of_cell? w p h)).trans h
theorem el_stp : ElemI Tryz.prog 48 56 5 40 := ElemI.mk' (z := .agg #[.int .i64 0, .int .i64 0, .int .i64 0, .int .i64 0, .int .i64 0]) Tryz.underlying48 (by kernel_rfl) rfl (by decide)
def opSt (ds : List Dv) (o : Int × Int) : List Sp :=
 if o.2 = 1 then [⟨1, o.1, 0, 0, 0⟩] else match ds[o.1.toNat]? with
  | some x => if x.kind = 4 then [⟨5, 0, x.a, 0, 0⟩, ⟨2, o.1, 0, 0, 0⟩] else [⟨2, o.1, 0, 0, 0⟩]
  | none => [⟨2, o.1, 0, 0, 0⟩]
def opsSt (ds : List Dv) (l : List (Int × Int)) : List Sp := l.flatMap (opSt ds)
theorem opSt_len (ds : List Dv) (o : Int × Int) : (opSt ds o).length ≤ 2 := by
 unfold opSt
 split
 ·simp
 ·split
  ·split <;> simp
  ·simp
theorem opsSt_len (ds : List Dv) : ∀ l : List (Int × Int), (opsSt ds l).length ≤ 2 * l.length
 | [] => by simp [opsSt]
 | o :: l => by
  have := opSt_len ds o
  have := opsSt_len ds l
  simp only [opsSt, List.flatMap_cons, List.length_append, List.length_cons] at *
  omega
theorem opsSt_next {ds : List Dv} {l : List (Int × Int)} {k : Nat} {o : Int × Int} (h : l[k]? = some o) : opsSt ds (l.take (k + 1)) = opsSt ds (l.take k) ++ opSt ds o := by
 unfold opsSt
 rw [List.take_add_one, h, List.flatMap_append]
 simp
def spsV (l : List Sp) : List Value := l.flatMap Sp.cells
theorem spsV_app (a b : List Sp) : spsV (a ++ b) = spsV a ++ spsV b := List.flatMap_append
def GsPost (w : World) (ds : List Dv) (l : List (Int × Int)) (e : Ending) (w' : World) : Prop :=
 ∃ (A : Option Addr) (c : Nat), e = .returned (.slice A (opsSt ds l).length c) ∧ Hid (w'.ownsRow w.heap.size 56 5 (.slice A (opsSt ds l).length c) (opsSt ds l).length (spsV (opsSt ds l))) ∧ Hid (Below w.heap.size w w')
def GsI (W wr : World) (A : Option Addr) (c : Nat) (l : List Sp) : Prop := wr.ownsRow W.heap.size 56 5 (.slice A l.length c) l.length (spsV l) ∧ Below W.heap.size W wr
theorem GsI.later {W wr wr' : World} {A : Option Addr} {c : Nat} {l : List Sp} (h : GsI W wr A c l) (hb : Below wr.heap.size wr wr') : GsI W wr' A c l := ⟨own_later h.1 hb, h.2.trans (hb.mono h.2.size)⟩
theorem GsI.app {W V wr' : World} {A A' : Option Addr} {c c' : Nat} {l : List Sp} (x : Sp) (h : GsI W V A c l) {N : Nat} (hN : l.length = N) (ho : wr'.ownsRow W.heap.size 56 5 (.slice A' (N + 1) c') (N + 1) (spsV l ++ x.cells)) (hg : V.grownBy wr' (Value.slice A N c).ownBlock) : GsI W wr' A' c' (l ++ [x]) := by
 subst hN
 refine ⟨?_, h.2.grown hg h.2.size fun g e => (h.1.lt g e).1⟩
 rw [show (l ++ [x]).length = l.length + 1 by simp, spsV_app, show spsV [x] = x.cells by simp [spsV]]
 exact ho
def GsR (W : World) (ds : List Dv) (l : List (Int × Int)) (gk : Nat) (v5 iv : Value) (wr : World) : Prop :=
 ∃ (k : Nat) (A : Option Addr) (c : Nat), v5 = .slice A (opsSt ds (l.take k)).length c ∧ iv = .int .i64 k ∧ k ≤ l.length ∧ gk = l.length - k ∧ Hid (GsI W wr A c (opsSt ds (l.take k)))
theorem GsR.step {W wr : World} {ds : List Dv} {l : List (Int × Int)} {k c : Nat} {A : Option Addr} {m : List Sp} (e : opsSt ds (l.take (k + 1)) = m) (hk : k < l.length) (h : GsI W wr A c m) {N : Nat} (hN : m.length = N) : GsR W ds l (l.length - (k + 1)) (.slice A N c) (.int .i64 ((k : Int) + 1)) wr :=
 ⟨k + 1, A, c, by rw [e, hN], rfl, hk, rfl, by rw [e]; exact h⟩
theorem gsteps_any (An Ad Ao : Option Addr) (nn cn nd cd co : Nat) (ds : List Dv) (l : List (Int × Int)) (w : World) (hd : Sl w w.heap.size 5 Ad nd cd (ds.flatMap Dv.cells)) (ho : Sl w w.heap.size 2 Ao l.length co (opsV l)) (hl : l.length ≤ 100000) (hr : ∀ o ∈ l, 0 ≤ o.1 ∧ o.1 < nd) :
 Calls Tryz.prog 51 #[.agg #[.slice An nn cn, .slice Ad nd cd], .slice Ao l.length co] w (GsPost w ds l) := by
 have HBL : Hid (Below w.heap.size w (w.alloc (.cells #[.slice An nn cn, .slice Ad nd cd] 30))) := (Below.refl _ _).alloc (Nat.le_refl _) _
 have HB := Lib.hid (Blk.new w 30 #[.slice An nn cn, .slice Ad nd cd])
 have HD := Lib.hid hd; have HO := Lib.hid ho; have HR := Lib.hid hr
 have hdm := hd.le; have hom := ho.le
 clear hd ho hr
 go_enter Tryz.func51, Tryz.ntmps51
 go_upto_region 3 with (fail)
 generalize World.alloc w _ = W at *
 go_wp2_with fail
 refine wp_loop_u2 [(4, 0), (0, 2), (0, 0), (1, 1), (1, 0), (0, 3), (33, 1), (0, 0)] 5 11 (l.length) (GsR W ds l) (by (try dsimp only [gt]); exact ⟨0, none, 0, rfl, rfl, Nat.zero_le _, rfl, World.ownsRow_nil _ _ _ _, Below.refl _ _⟩) (by kernel_rfl) ?_
 intro u1 p5 p11 gk wr a hrel ha J1 K1 hJ1 hK1
 dsimp only [relaxR, Go.Proofs.YtfaknfmndafllaaGreatDoor.v2, Nat.reduceAdd] at ha
 subst ha
 obtain ⟨k, A, c, rfl, rfl, hk, rfl, hI⟩ := hrel
 have HI := Lib.hid hI.out
 clear hI
 have HLW := Lib.hid (HBL.out.trans (HI.out.2.mono HBL.out.size))
 by_cases hlt : k < l.length; rotate_left
 ·have q1 : decide (k < l.length) = false := by simpa using hlt
  obtain rfl : k = l.length := by omega
  have HI2 := HI.out
  rw [List.take_length] at HI2
  have HI3 := Lib.hid HI2
  have HTL : Hid (l.take l.length = l) := List.take_length
  clear HI2 HI
  go_wp2_with fail
  go_ret
  refine ⟨A, c, ?_, HI3.out.1.mono HBL.out.size, HLW.out⟩
  rw [HTL.out]; rfl
 have q1 : decide (k < l.length) = true := by simpa using hlt
 obtain ⟨b1, o1, o, rfl, hb1, ho1, hc1⟩ := (HO.out.below HLW.out (Nat.le_refl _)).at (l := l) (f := fun o : Int × Int => [Value.int .i64 o.1, Value.int .i64 o.2]) (fun _ => rfl) (by decide) hlt
 have e0 : wr.cell? ⟨b1, o1 + k * 2, none⟩ = some (.int .i64 o.1) := hc1 0 _ rfl
 have e1 : wr.cell? ⟨b1, o1 + k * 2 + 1, none⟩ = some (.int .i64 o.2) := hc1 1 _ rfl
 obtain ⟨hr0, hr1⟩ := HR.out o (List.mem_of_getElem? ho1)
 obtain ⟨d, p⟩ := o
 obtain ⟨d, rfl⟩ := Int.eq_ofNat_of_zero_le (show 0 ≤ d from hr0)
 have hdn : d < nd := by have : ((d : Nat) : Int) < nd := hr1; omega
 have HNX := Lib.hid (opsSt_next (ds := ds) ho1)
 have hsl := opsSt_len ds (l.take k)
 have hbd : (opsSt ds (l.take k)).length ≤ 200000 := by rw [List.length_take] at hsl; omega
 have hkk : IntKind.i64.wrap ((k : Int) + 1) = (k : Int) + 1 := IntWalk.i64_in _ (by omega)
 obtain ⟨b2, o2, x, rfl, hb2, hx, hc2⟩ := (HD.out.below HLW.out (Nat.le_refl _)).at (fun _ => rfl) (by decide) hdn
 have HX := Lib.hid hx
 clear hc1 hr0 hr1 ho1 hsl hx
 obtain ⟨nm, kd, xa, xb, xc⟩ := x
 have u0 : wr.cell? ⟨b2, o2 + d * 5, none⟩ = some (.string nm) := hc2 0 _ rfl
 have u1 : wr.cell? ⟨b2, o2 + d * 5 + 1, none⟩ = some (.int .i64 kd) := hc2 1 _ rfl
 have u2 : wr.cell? ⟨b2, o2 + d * 5 + 2, none⟩ = some (.int .i64 xa) := hc2 2 _ rfl
 have u3 : wr.cell? ⟨b2, o2 + d * 5 + 3, none⟩ = some (.int .i64 xb) := hc2 3 _ rfl
 have u4 : wr.cell? ⟨b2, o2 + d * 5 + 4, none⟩ = some (.int .i64 xc) := hc2 4 _ rfl
 have n1 := (HB.out.below HI.out.2 HB.out.lt).c1
 have hm1 : nd ≤ 9223372036854775807 := by omega
 have hm2 : l.length ≤ 9223372036854775807 := by omega
 have hvb : b2 < wr.heap.size := by have := HLW.out.size; omega
 have hwb : w.heap.size < wr.heap.size := by have := HB.out.lt; have := HI.out.2.size; omega
 clear hc2
 have v0 := kcell ((Below.refl wr.heap.size wr).alloc (Nat.le_refl _) (.cells #[.int .i64 (d : Int), .int .i64 p] 62)) u0
 have v1 := kcell ((Below.refl wr.heap.size wr).alloc (Nat.le_refl _) (.cells #[.int .i64 (d : Int), .int .i64 p] 62)) u1
 have v2 := kcell ((Below.refl wr.heap.size wr).alloc (Nat.le_refl _) (.cells #[.int .i64 (d : Int), .int .i64 p] 62)) u2
 have v3 := kcell ((Below.refl wr.heap.size wr).alloc (Nat.le_refl _) (.cells #[.int .i64 (d : Int), .int .i64 p] 62)) u3
 have v4 := kcell ((Below.refl wr.heap.size wr).alloc (Nat.le_refl _) (.cells #[.int .i64 (d : Int), .int .i64 p] 62)) u4
 have m1 := kcell ((Below.refl wr.heap.size wr).alloc (Nat.le_refl _) (.cells #[.int .i64 (d : Int), .int .i64 p] 62)) n1
 go_upto_region 6 with (fail)
 clear u0 u1 u2 u3 u4 n1 v0 v1 v2 v3 v4 m1 q1 e0 e1
 have HOB := Lib.hid ((Blk.new wr 62 #[.int .i64 (d : Int), .int .i64 p]).alloc (.cells #[.string nm, .int .i64 kd, .int .i64 xa, .int .i64 xb, .int .i64 xc] 68))
 have HDB := Lib.hid (Blk.new (wr.alloc (.cells #[.int .i64 (d : Int), .int .i64 p] 62)) 68 #[.string nm, .int .i64 kd, .int .i64 xa, .int .i64 xb, .int .i64 xc])
 rw [show (wr.alloc (.cells #[.int .i64 (d : Int), .int .i64 p] 62)).heap.size = wr.heap.size + 1 by simp] at HDB
 have HIV := Lib.hid (HI.out.later (((Below.refl wr.heap.size wr).alloc (Nat.le_refl _) (.cells #[.int .i64 (d : Int), .int .i64 p] 62)).alloc (by simp) (.cells #[.string nm, .int .i64 kd, .int .i64 xa, .int .i64 xb, .int .i64 xc] 68)))
 have HPN : Hid ((Value.slice A (opsSt ds (l.take k)).length c).ownBlock ≠ some wr.heap.size) := fun e => by have := (HI.out.1.lt _ e).2; omega
 clear HI HLW
 generalize World.alloc (World.alloc wr _) _ = V at *
 have p0 := HOB.out.cell 0; have p1 := HOB.out.cell 1; have d1 := HDB.out.cell 1; have d2 := HDB.out.cell 2
 by_cases hp : p = 1
 ·have q2 : (p == 1) = true := by simpa using hp
  have HS : Hid (opsSt ds (l.take (k + 1)) = opsSt ds (l.take k) ++ [⟨1, d, 0, 0, 0⟩]) := by unfold Hid; rw [HNX.out]; unfold opSt; rw [if_pos hp]
  clear hp
  go_upto_region 11 with (at_builtin; go_must (refine wpList_app rfl (.tmp 24) (.tmp 28) rfl el_stp (by rfl) (HIV.out.1.alloc _) (by rfl) (Sl.newest (n := 1) rfl rfl (by decide)) (by simp [Value.oneCell']) (by omega) (by omega) (by have := HIV.out.2.size; simp; omega) ?_; intro A5 c5 w5 hown hgr hat; have HO5 := Lib.hid hown; have HG5 := Lib.hid hgr; clear hown hgr hat))
  have HF := Lib.hid ((HIV.out.later ((Below.refl _ _).alloc (Nat.le_refl _) _)).app ⟨1, d, 0, 0, 0⟩ rfl HO5.out HG5.out)
  clear HO5 HG5 HIV HOB HDB p0 p1 d1 d2 q2
  go_wp2_with fail
  refine Handed.intro (l.length - (k + 1)) (by omega) (hJ1 _ _ _ (LpI2.back 5 11 ?_ (by kernel_rfl)))
  dsimp only [gt]
  exact GsR.step HS.out hlt HF.out (by simp)
 have q2 : (p == 1) = false := by simpa using hp
 by_cases hk4 : kd = 4; rotate_left
 ·have q3 : (kd == 4) = false := by simpa using hk4
  have HS : Hid (opsSt ds (l.take (k + 1)) = opsSt ds (l.take k) ++ [⟨2, d, 0, 0, 0⟩]) := by unfold Hid; rw [HNX.out]; unfold opSt; rw [if_neg hp]; simp only [Int.toNat_natCast, HX.out]; rw [if_neg hk4]
  clear hp
  go_upto_region 11 with (at_builtin; go_must (refine wpList_app rfl (.tmp 39) (.tmp 43) rfl el_stp (by rfl) (HIV.out.1.alloc _) (by rfl) (Sl.newest (n := 1) rfl rfl (by decide)) (by simp [Value.oneCell']) (by omega) (by omega) (by have := HIV.out.2.size; simp; omega) ?_; intro A5 c5 w5 hown hgr hat; have HO5 := Lib.hid hown; have HG5 := Lib.hid hgr; clear hown hgr hat))
  have HF := Lib.hid ((HIV.out.later ((Below.refl _ _).alloc (Nat.le_refl _) _)).app ⟨2, d, 0, 0, 0⟩ rfl HO5.out HG5.out)
  clear HO5 HG5 HIV HOB HDB p0 p1 d1 d2 q2
  go_wp2_with fail
  refine Handed.intro (l.length - (k + 1)) (by omega) (hJ1 _ _ _ (LpI2.back 5 11 ?_ (by kernel_rfl)))
  dsimp only [gt]
  exact GsR.step HS.out hlt HF.out (by simp)
 have q3 : (kd == 4) = true := by simpa using hk4
 have HS : Hid (opsSt ds (l.take (k + 1)) = opsSt ds (l.take k) ++ [⟨5, 0, xa, 0, 0⟩] ++ [⟨2, d, 0, 0, 0⟩]) := by unfold Hid; rw [HNX.out]; unfold opSt; rw [if_neg hp]; simp only [Int.toNat_natCast, HX.out]; rw [if_pos hk4, List.append_assoc]; rfl
 clear hp hk4
 go_upto_region 10 with (at_builtin; go_must (refine wpList_app rfl (.tmp 33) (.tmp 37) rfl el_stp (by rfl) (HIV.out.1.alloc _) (by rfl) (Sl.newest (n := 1) rfl rfl (by decide)) (by simp [Value.oneCell']) (by omega) (by omega) (by have := HIV.out.2.size; simp; omega) ?_; intro A5 c5 w5 hown hgr hat; have HO5 := Lib.hid hown; have HG5 := Lib.hid hgr; clear hown hgr hat))
 have HF := Lib.hid ((HIV.out.later ((Below.refl _ _).alloc (Nat.le_refl _) _)).app ⟨5, 0, xa, 0, 0⟩ rfl HO5.out HG5.out)
 have p0' : w5.cell? ⟨wr.heap.size, 0, none⟩ = some (.int .i64 (d : Int)) := (World.cell?_of_block (HG5.out.block wr.heap.size (by have := HOB.out.lt; simp; omega) (fun e => by have := HPN.out; exact this e.symm))).trans (kcell ((Below.refl V.heap.size V).alloc (Nat.le_refl _) _) p0)
 clear p0 p1 d1 d2
 have hl5 : (opsSt ds (l.take k) ++ [(⟨5, 0, xa, 0, 0⟩ : Sp)]).length = (opsSt ds (l.take k)).length + 1 := by simp
 have HFO : Hid (w5.ownsRow W.heap.size 56 5 (.slice A5 ((opsSt ds (l.take k)).length + 1) c5) ((opsSt ds (l.take k)).length + 1) (spsV (opsSt ds (l.take k) ++ [(⟨5, 0, xa, 0, 0⟩ : Sp)]))) := by have := HF.out.1; rw [hl5] at this; exact this
 go_upto_region 11 with (at_builtin; go_must (refine wpList_app rfl (.tmp 39) (.tmp 43) rfl el_stp (by rfl) (HFO.out.alloc _) (by rfl) (Sl.newest (n := 1) rfl rfl (by decide)) (by simp [Value.oneCell']) (by omega) (by omega) (by have := HF.out.2.size; simp; omega) ?_; intro A6 c6 w6 hown hgr hat; have HO6 := Lib.hid hown; have HG6 := Lib.hid hgr; clear hown hgr hat))
 have HF2 := Lib.hid ((HF.out.later ((Below.refl _ _).alloc (Nat.le_refl _) _)).app ⟨2, d, 0, 0, 0⟩ hl5 HO6.out HG6.out)
 clear HO5 HG5 HIV HOB HDB q2 HO6 HG6 HF
 go_wp2_with fail
 refine Handed.intro (l.length - (k + 1)) (by omega) (hJ1 _ _ _ (LpI2.back 5 11 ?_ (by kernel_rfl)))
 dsimp only [gt]
 exact GsR.step HS.out hlt HF2.out (by simp)
end Go.Proofs.YtfaknfmndafllaaGreatDoor
namespace Go.Proofs.YtfaknfmndafllaaGreatDoor
open Go.RowKit
theorem opsP_in {perm : List Int → Nat → Bool} {M : Nat → Nat} {m n : Nat} (hM : ∀ i, i < m → M i < n) : ∀ (p : List Nat) (s t : List Int), wk (stS perm M m) s p = some t → ∀ o ∈ opsP M s p, 0 ≤ o.1 ∧ o.1 < (n : Int)
 | [], _, _, _, o, ho => by cases ho
 | i :: p, s, t, h, o, ho => by
  obtain ⟨s', h1, h2⟩ := Option.bind_eq_some_iff.1 (show (stS perm M m s i).bind (fun b => wk (stS perm M m) b p) = some t from h)
  obtain ⟨⟨hi, _⟩, rfl⟩ := stS_some.1 h1
  rcases List.mem_cons.1 ho with rfl | ho
  ·have := hM i hi
   exact ⟨Int.natCast_nonneg _, by show ((M i : Nat) : Int) < n; omega⟩
  ·exact opsP_in hM p _ _ h2 o ho
def unl (k : Lk) : Sp := ⟨4, k.dev, 0, 0, k.key⟩
def rstS (ds : List Dv) (s : List Int) (co : Int) (ls : List Lk) (p : List Nat) : List Sp := ls.map unl ++ opsSt ds (opsP (mvF ds [] co) s p)
def rstE (ns : List Nd) (ds : List Dv) (s t : List Int) (co : Int) (ls : List Lk) (pr : List Int) : Int :=
 if stsE ns ds s t ≠ 0 then stsE ns ds s t else if grErr ns ds co ls pr ≠ 0 then grErr ns ds co ls pr else srErr ns ds s t co [] pr
noncomputable def rsSt (ns : List Nd) (ds : List Dv) (co : Int) (pr : List Int) : List Int → Nat → Option (List Int) := stS (permB ns ds co [] pr [5]) (mvF ds [] co) (mvS ds [] co ds.length).length
theorem own_byF {w : World} {base size n c x i : Nat} {e : TypeId} {A : Option Addr} {xs : List Value} {u : Value} (h : w.ownsRow base e size (.slice A n c) n xs) (hx : x < base) : (w.setCell ⟨x, i, none⟩ u).ownsRow base e size (.slice A n c) n xs :=
 h.kept (grown_cell _ _ _) (ne_row fun b e => by have := (h.lt b e).1; simp; omega)
def RstPost (w : World) (ns : List Nd) (ds : List Dv) (s t : List Int) (co : Int) (ls : List Lk) (pr : List Int) (e : Ending) (w' : World) : Prop :=
 ((∃ er : Int, e = .returned (.tuple #[.agg #[.string ⟨#[]⟩, .slice none 0 0], .int .i64 er]) ∧ ((rstE ns ds s t co ls pr ≠ 0 ∧ er = rstE ns ds s t co ls pr) ∨ rstE ns ds s t co ls pr = 0 ∧ (NoneIs (rsSt ns ds co pr) s (goalT t) ∧ er = 15 ∨ ∃ p, SomeIs (rsSt ns ds co pr) s (goalT t) p ∧ 64 < (rstS ds s co ls p).length ∧ er = 1))) ∨
  rstE ns ds s t co ls pr = 0 ∧ ∃ (p : List Nat) (A : Option Addr) (c : Nat), SomeIs (rsSt ns ds co pr) s (goalT t) p ∧ (rstS ds s co ls p).length ≤ 64 ∧ e = .returned (.tuple #[.agg #[.string ⟨#[82, 69, 83, 84, 79, 82, 69]⟩, .slice A (rstS ds s co ls p).length c], .int .i64 0]) ∧ w'.ownsRow w.heap.size 56 5 (.slice A (rstS ds s co ls p).length c) (rstS ds s co ls p).length (spsV (rstS ds s co ls p))) ∧ Hid (Below w.heap.size w w')
structure RrM (z : World) (A : Option Addr) (n c : Nat) (l : List Sp) (wr : World) : Prop where
 b : Below z.heap.size z wr
 x : Blk wr z.heap.size 50 #[.string ⟨#[82, 69, 83, 84, 79, 82, 69]⟩, .slice A n c]
 o : wr.ownsRow (z.heap.size + 1) 56 5 (.slice A n c) n (spsV l)
 n : l.length = n
section
variable {z wr wr' : World} {A A' : Option Addr} {n c c' m : Nat} {l l' : List Sp}
theorem RrM.later (h : RrM z A n c l wr) (hb : Below wr.heap.size wr wr') : RrM z A n c l wr' :=
 ⟨h.b.trans (hb.mono h.b.size), h.x.below hb h.x.lt, own_later h.o hb, h.n⟩
theorem RrM.app (h : RrM z A n c l wr) (hg : wr.grownBy wr' (Value.slice A n c).ownBlock) (hr : wr'.ownsRow (z.heap.size + 1) 56 5 (.slice A' (n + m) c') (n + m) (spsV l ++ spsV l')) (hm : l'.length = m) :
 Blk wr' z.heap.size 50 #[.string ⟨#[82, 69, 83, 84, 79, 82, 69]⟩, .slice A n c] ∧ Below z.heap.size z wr' ∧ RrM z A' (n + m) c' (l ++ l') (wr'.setCell ⟨z.heap.size, 1, none⟩ (.slice A' (n + m) c')) := by
 have nb : ∀ {b : Nat}, b ≤ z.heap.size → some b ≠ (Value.slice A n c).ownBlock := fun {b} hb e => by have := (h.o.lt b e.symm).1; omega
 have hb : Below z.heap.size z wr' := h.b.trans ⟨hg.os, hg.tape, hg.output, hg.size, fun i hi => hg.block i (Nat.lt_of_lt_of_le hi h.b.size) (nb (Nat.le_of_lt hi))⟩
 have hx := h.x.grown hg (nb (Nat.le_refl _))
 refine ⟨hx, hb, hb.setCell (Nat.le_refl _) _, hx.set 1 _, ?_, by rw [List.length_append, h.n, hm]⟩
 rw [spsV_app]
 exact hr.kept (grown_cell _ _ _) (ne_row fun b e => by have := (hr.lt b e).1; simp; omega)
end
def RrR (z : World) (ls : List Lk) (gk : Nat) (iv : Value) (wr : World) : Prop :=
 ∃ (k : Nat) (A : Option Addr) (c : Nat), iv = .int .i64 k ∧ k ≤ ls.length ∧ gk = ls.length - k ∧ Hid (RrM z A k c ((ls.take k).map unl) wr)
theorem sps_one (l : List Sp) : ∀ u ∈ spsV l, u.oneCell' = true := fun u hu => by
 obtain ⟨x, _, hx⟩ := List.mem_flatMap.1 hu
 simp only [Sp.cells, List.mem_cons, List.not_mem_nil, or_false] at hx
 rcases hx with rfl | rfl | rfl | rfl | rfl <;> rfl
theorem restore_any (An Ad As Al Ap At : Option Addr) (nn cn nd cd n c nl cl np cp n2 c2 : Nat) (ns : List Nd) (ds : List Dv) (s t : List Int) (ls : List Lk) (pr : List Int) (co : Int) (w : World) (h : HzMem w An Ad As Al Ap nn cn nd cd n c nl cl np cp ns ds s ls pr) (ht : Sl w w.heap.size 1 At n2 c2 (intsV t)) :
 Calls Tryz.prog 22 #[.agg #[.slice An nn cn, .slice Ad nd cd], .slice As n c, .agg #[.int .i64 co, .slice Al nl cl, .slice Ap np cp], .slice At n2 c2] w (RstPost w ns ds s t co ls pr) := by
 obtain ⟨hln, hld, hls⟩ := h.ln
 have hll : ls.length = nl := h.hl.len (fun _ => rfl) (by decide)
 have HH := Lib.hid h; have HT := Lib.hid ht
 have HLD : Hid (ds.length = nd ∧ ls.length = nl) := ⟨hld, hll⟩
 clear h ht hln hld hls hll
 have HB : Hid (Bxp w #[.slice An nn cn, .slice Ad nd cd] #[.int .i64 co, .slice Al nl cl, .slice Ap np cp] #[.string ⟨#[]⟩, .slice none 0 0] (((w.alloc (.cells #[.slice An nn cn, .slice Ad nd cd] 30)).alloc (.cells #[.int .i64 co, .slice Al nl cl, .slice Ap np cp] 40)).alloc (.cells #[.string ⟨#[]⟩, .slice none 0 0] 50))) := Bxp.new w _ _ _
 go_enter Tryz.func22, Tryz.ntmps22
 go_upto_region 1 with (fail)
 generalize World.alloc (World.alloc (World.alloc w _) _) _ = W at *
 have HM := Lib.hid (HH.out.below HB.out.bl)
 have n0 := HB.out.bn.cell 0; have n1 := HB.out.bn.cell 1
 have HC := Lib.hid (rstates_any An Ad As At nn cn nd cd n c n2 c2 ns ds s t W HM.out.la HM.out.hn HM.out.hd HM.out.hs ((HT.out.below HB.out.bl (Nat.le_refl _)).more HB.out.bl.size) HM.out.sn HM.out.sd)
 go_wp2_with fail
 refine HC.out.mono ?_
 rintro e w1 ⟨rfl, hb1⟩
 have HB1 := Lib.hid (HB.out.later hb1)
 clear HC HB HM hb1 n0 n1
 by_cases h1 : stsE ns ds s t = 0; rotate_left
 ·have q1 : (stsE ns ds s t == 0) = false := by simpa using h1
  have q2 : (stsE ns ds s t != 0) = true := by simpa using h1
  have HE : Hid (rstE ns ds s t co ls pr = stsE ns ds s t) := by unfold Hid rstE; rw [if_pos h1]
  have HNE := Lib.hid h1
  clear h1
  have d0 := HB1.out.bp.cell 0; have d1 := HB1.out.bp.cell 1; have y0 := HB1.out.bp.frozen 0; have y1 := HB1.out.bp.frozen 1
  have HF : Hid (Blk ((w1.setCell ⟨w.heap.size + 2, 0, none⟩ (.string ⟨#[]⟩)).setCell ⟨w.heap.size + 2, 1, none⟩ (.slice none 0 0)) (w.heap.size + 2) 50 #[.string ⟨#[]⟩, .slice none 0 0]) := (HB1.out.bp.set 0 _).set 1 _
  have HL : Hid (Below w.heap.size w ((w1.setCell ⟨w.heap.size + 2, 0, none⟩ (.string ⟨#[]⟩)).setCell ⟨w.heap.size + 2, 1, none⟩ (.slice none 0 0))) := (HB1.out.bl.setCell (p := ⟨w.heap.size + 2, 0, none⟩) (by simp) _).setCell (p := ⟨w.heap.size + 2, 1, none⟩) (by simp) _
  clear HB1
  go_wp2_with fail
  clear d0 d1 y0 y1
  generalize World.setCell (World.setCell w1 _ _) _ _ = z at *
  have q8 := HF.out.c0
  have q9 := HF.out.c1
  exact bodyPost_ret (v := .tuple #[.agg #[.string ⟨#[]⟩, .slice none 0 0], .int .i64 (stsE ns ds s t)]) (by simp [results, Tryz.results22, go_sem, q8, q9]) rfl ⟨.inl ⟨_, rfl, .inl ⟨by rw [HE.out]; exact HNE.out, HE.out.symm⟩⟩, HL.out⟩
 have HE1 : Hid (rstE ns ds s t co ls pr = if grErr ns ds co ls pr ≠ 0 then grErr ns ds co ls pr else srErr ns ds s t co [] pr) := by unfold Hid rstE; rw [if_neg (by rw [h1]; simp)]
 have q1 : (stsE ns ds s t == 0) = true := by simpa using h1
 have HM1 := Lib.hid (HH.out.below HB1.out.bl)
 have HC := Lib.hid (gcheck_any An Ad As Al Ap nn cn nd cd n c nl cl np cp ns ds s ls pr co w1 HM1.out)
 clear h1
 have n0 := HB1.out.bn.cell 0; have n1 := HB1.out.bn.cell 1; have g0 := HB1.out.bg.cell 0; have g1 := HB1.out.bg.cell 1; have g2 := HB1.out.bg.cell 2
 go_wp2_with fail
 refine HC.out.mono ?_
 rintro e w2 ⟨rfl, hb2⟩
 have HB2 := Lib.hid (HB1.out.later hb2)
 clear HC HB1 HM1 hb2 n0 n1 g0 g1 g2 q1
 by_cases h1 : grErr ns ds co ls pr = 0; rotate_left
 ·have q2 : (grErr ns ds co ls pr != 0) = true := by simpa using h1
  have HE : Hid (rstE ns ds s t co ls pr = grErr ns ds co ls pr) := by unfold Hid; rw [HE1.out, if_pos h1]
  have HNE := Lib.hid h1
  clear h1
  have d0 := HB2.out.bp.cell 0; have d1 := HB2.out.bp.cell 1; have y0 := HB2.out.bp.frozen 0; have y1 := HB2.out.bp.frozen 1
  have HF : Hid (Blk ((w2.setCell ⟨w.heap.size + 2, 0, none⟩ (.string ⟨#[]⟩)).setCell ⟨w.heap.size + 2, 1, none⟩ (.slice none 0 0)) (w.heap.size + 2) 50 #[.string ⟨#[]⟩, .slice none 0 0]) := (HB2.out.bp.set 0 _).set 1 _
  have HL : Hid (Below w.heap.size w ((w2.setCell ⟨w.heap.size + 2, 0, none⟩ (.string ⟨#[]⟩)).setCell ⟨w.heap.size + 2, 1, none⟩ (.slice none 0 0))) := (HB2.out.bl.setCell (p := ⟨w.heap.size + 2, 0, none⟩) (by simp) _).setCell (p := ⟨w.heap.size + 2, 1, none⟩) (by simp) _
  clear HB2
  go_wp2_with fail
  clear d0 d1 y0 y1
  generalize World.setCell (World.setCell w2 _ _) _ _ = z at *
  have q8 := HF.out.c0
  have q9 := HF.out.c1
  exact bodyPost_ret (v := .tuple #[.agg #[.string ⟨#[]⟩, .slice none 0 0], .int .i64 (grErr ns ds co ls pr)]) (by simp [results, Tryz.results22, go_sem, q8, q9]) rfl ⟨.inl ⟨_, rfl, .inl ⟨by rw [HE.out]; exact HNE.out, HE.out.symm⟩⟩, HL.out⟩
 have HE2 : Hid (rstE ns ds s t co ls pr = srErr ns ds s t co [] pr) := by unfold Hid; rw [HE1.out, if_neg (by rw [h1]; simp)]
 have q2 : (grErr ns ds co ls pr != 0) = false := by simpa using h1
 have HLK := Lib.hid (grErr_co h1).2
 have HMX : Hid (HzMem w2 An Ad As none Ap nn cn nd cd n c 0 0 np cp ns ds s [] pr) := by
  have hm := HH.out.below HB2.out.bl
  exact ⟨hm.hn, hm.hd, hm.hs, Sl.nil _ _ _, hm.hp, hm.la, hm.sn, hm.sd⟩
 have HC := Lib.hid (rsearch_any An Ad As none Ap At nn cn nd cd n c 0 0 np cp n2 c2 ns ds s t [] pr co w2 HMX.out ((HT.out.below HB2.out.bl (Nat.le_refl _)).more HB2.out.bl.size))
 clear h1 HE1
 have n0 := HB2.out.bn.cell 0; have n1 := HB2.out.bn.cell 1; have g0 := HB2.out.bg.cell 0; have g1 := HB2.out.bg.cell 1; have g2 := HB2.out.bg.cell 2
 go_wp2_with fail
 refine HC.out.mono ?_
 rintro e w3 ⟨hf, hb3⟩
 have HB3 := Lib.hid (HB2.out.later hb3.out)
 have HSZ : Hid (w.heap.size ≤ w2.heap.size) := HB2.out.bl.size
 clear HC HB2 HMX hb3 n0 n1 g0 g1 g2 q2
 rcases hf with ⟨h1, rfl⟩ | ⟨h1, ⟨hno, rfl⟩ | ⟨p, A, cA, hso, hpl, he, hO⟩⟩
 ·have q1 : (srErr ns ds s t co [] pr != 0) = true := by simpa using h1
  have HNE := Lib.hid h1
  clear h1
  have d0 := HB3.out.bp.cell 0; have d1 := HB3.out.bp.cell 1; have y0 := HB3.out.bp.frozen 0; have y1 := HB3.out.bp.frozen 1
  have HF : Hid (Blk ((w3.setCell ⟨w.heap.size + 2, 0, none⟩ (.string ⟨#[]⟩)).setCell ⟨w.heap.size + 2, 1, none⟩ (.slice none 0 0)) (w.heap.size + 2) 50 #[.string ⟨#[]⟩, .slice none 0 0]) := (HB3.out.bp.set 0 _).set 1 _
  have HL : Hid (Below w.heap.size w ((w3.setCell ⟨w.heap.size + 2, 0, none⟩ (.string ⟨#[]⟩)).setCell ⟨w.heap.size + 2, 1, none⟩ (.slice none 0 0))) := (HB3.out.bl.setCell (p := ⟨w.heap.size + 2, 0, none⟩) (by simp) _).setCell (p := ⟨w.heap.size + 2, 1, none⟩) (by simp) _
  clear HB3
  go_wp2_with fail
  clear d0 d1 y0 y1
  generalize World.setCell (World.setCell w3 _ _) _ _ = z at *
  have q8 := HF.out.c0
  have q9 := HF.out.c1
  exact bodyPost_ret (v := .tuple #[.agg #[.string ⟨#[]⟩, .slice none 0 0], .int .i64 (srErr ns ds s t co [] pr)]) (by simp [results, Tryz.results22, go_sem, q8, q9]) rfl ⟨.inl ⟨_, rfl, .inl ⟨by rw [HE2.out]; exact HNE.out, HE2.out.symm⟩⟩, HL.out⟩
 ·have HZ : Hid (rstE ns ds s t co ls pr = 0) := by unfold Hid; rw [HE2.out, h1]
  have HNO := Lib.hid hno
  clear hno h1
  have d0 := HB3.out.bp.cell 0; have d1 := HB3.out.bp.cell 1; have y0 := HB3.out.bp.frozen 0; have y1 := HB3.out.bp.frozen 1
  have HF : Hid (Blk ((w3.setCell ⟨w.heap.size + 2, 0, none⟩ (.string ⟨#[]⟩)).setCell ⟨w.heap.size + 2, 1, none⟩ (.slice none 0 0)) (w.heap.size + 2) 50 #[.string ⟨#[]⟩, .slice none 0 0]) := (HB3.out.bp.set 0 _).set 1 _
  have HL : Hid (Below w.heap.size w ((w3.setCell ⟨w.heap.size + 2, 0, none⟩ (.string ⟨#[]⟩)).setCell ⟨w.heap.size + 2, 1, none⟩ (.slice none 0 0))) := (HB3.out.bl.setCell (p := ⟨w.heap.size + 2, 0, none⟩) (by simp) _).setCell (p := ⟨w.heap.size + 2, 1, none⟩) (by simp) _
  clear HB3
  go_wp2_with fail
  clear d0 d1 y0 y1
  generalize World.setCell (World.setCell w3 _ _) _ _ = z at *
  have q8 := HF.out.c0
  have q9 := HF.out.c1
  exact bodyPost_ret (v := .tuple #[.agg #[.string ⟨#[]⟩, .slice none 0 0], .int .i64 (15)]) (by simp [results, Tryz.results22, go_sem, q8, q9]) rfl ⟨.inl ⟨_, rfl, .inr ⟨HZ.out, .inl ⟨HNO.out, rfl⟩⟩⟩, HL.out⟩
 have HZ : Hid (rstE ns ds s t co ls pr = 0) := by unfold Hid; rw [HE2.out, h1]
 have HSO : Hid (SomeIs (rsSt ns ds co pr) s (goalT t) p) := hso
 have HPO : Hid (∀ o ∈ opsP (mvF ds [] co) s p, 0 ≤ o.1 ∧ o.1 < (nd : Int)) := by
  obtain ⟨b, _, hw, _⟩ := hso
  exact fun o ho => by have := opsP_in (n := ds.length) (fun i hi => mvF_lt hi) p s b hw o ho; rw [HLD.out.1] at this; exact this
 rw [← opsP_len (mvF ds [] co) p s] at he hO hpl
 obtain ⟨l, hl⟩ : ∃ l, l = opsP (mvF ds [] co) s p := ⟨_, rfl⟩
 have HST : Hid (rstS ds s co ls p = ls.map unl ++ opsSt ds l) := by unfold Hid rstS; rw [hl]
 have HOP : Hid (w3.ownsRow w2.heap.size 62 2 (.slice A l.length cA) l.length (opsV l)) := by rw [hl]; exact hO
 rw [← hl] at he hpl HPO
 have hp4 : l.length ≤ 1024 := hpl
 subst he
 have hl128 : ls.length ≤ 128 := by
  have := HLK.out
  unfold locksErr at this
  split at this
  ·next h => exact absurd this h
  ·split at this
   ·cases this
   ·omega
 clear hso hpl hO h1 HLK hl
 have HAL : Hid (Below w3.heap.size w3 (w3.alloc (.cells #[.string ⟨#[82, 69, 83, 84, 79, 82, 69]⟩, .slice none 0 0] 50))) := (Below.refl _ _).alloc (Nat.le_refl _) _
 have HR0 : Hid (RrM w3 none 0 0 [] (w3.alloc (.cells #[.string ⟨#[82, 69, 83, 84, 79, 82, 69]⟩, .slice none 0 0] 50))) := ⟨HAL.out, Blk.new _ _ _, World.ownsRow_nil _ _ _ _, rfl⟩
 have b0 := (HB3.out.later HAL.out).bg.cell 1
 go_upto_region 11 with (fail)
 clear b0 HAL
 obtain ⟨x, hx⟩ : ∃ x, x = w3.heap.size := ⟨_, rfl⟩
 rw [← hx]
 have HX := Lib.hid hx
 clear hx
 generalize World.alloc w3 _ = V at *
 refine wp_loop_u1 [(13, 0), (0, 1), (32, 0), (0, 2), (13, 1), (12, 0)] 48 (ls.length) (RrR w3 ls) (by (try dsimp only [gt]); exact ⟨0, none, 0, rfl, Nat.zero_le _, rfl, HR0⟩) (by kernel_rfl) ?_
 intro u1 p48 gk wr a hrel ha J1 K1 hJ1 hK1
 dsimp only [relaxR, Go.Proofs.YtfaknfmndafllaaGreatDoor.v1, Nat.reduceAdd] at ha
 subst ha
 clear HR0
 obtain ⟨k, B, cB, rfl, hk, rfl, hM⟩ := hrel
 have HM := Lib.hid hM.out
 clear hM
 have HBW := Lib.hid (HB3.out.later HM.out.b)
 by_cases hlt : k < nl; rotate_left
 ·have q1 : decide ((k : Int) < (nl : Int)) = false := by simp; omega
  obtain rfl : nl = k := by have := HLD.out.2; omega
  have HMD : Hid (RrM w3 B nl cB (ls.map unl) wr.drew) := by
   have := HM.out.later (Below.refl wr.heap.size wr).drew
   rwa [List.take_of_length_le (by have := HLD.out.2; omega)] at this
  have HBD := Lib.hid (HB3.out.later HMD.out.b)
  have HLU : Hid (nl ≤ 128 ∧ (opsSt ds l).length ≤ 2048) := ⟨by have := HLD.out.2; omega, by have := opsSt_len ds l; omega⟩
  clear HM HBW
  go_upto_region 15 with (fail)
  refine wp_region_J (S := fun W' => W'.cell? ⟨x, 1, none⟩ = some (.slice B nl cB) ∧ W'.cell? ⟨w.heap.size, 0, none⟩ = some (.slice An nn cn) ∧ W'.cell? ⟨w.heap.size, 1, none⟩ = some (.slice Ad nd cd)) (J := [7]) (by kernel_rfl) ?_ (fun hHeld => ?_)
  ·exact ⟨by rw [HX.out]; exact HMD.out.x.cell 1, HBD.out.bn.cell 0, HBD.out.bn.cell 1⟩
  try dsimp only at hHeld
  refine tk 0 63 (mf 8 1) hHeld ?_
  refine wpAnyJ_takeL (i := 1) (d := some 64) (v := ?_) (mf 8 2) (by kernel_rfl) rfl rfl (by kernel_rfl) (by kernel_rfl) (by kernel_rfl) (by kernel_rfl) (by kernel_rfl) (fun _ _ _ h => h) (Or.inl ⟨by rfl, ?_⟩) hHeld ?_
  rotate_left
  ·(intro w hSw; (try dsimp only at hSw); have u0 := hSw.1; go_simp; try with_reducible rfl)
  try simp only [Act.put, sA, sB, sC]
  refine wpAnyJ_takeL (i := 2) (d := some 65) (v := ?_) (mf 8 3) (by kernel_rfl) rfl rfl (by kernel_rfl) (by kernel_rfl) (by kernel_rfl) (by kernel_rfl) (by kernel_rfl) (fun _ _ _ h => h) (Or.inl ⟨by rfl, ?_⟩) hHeld ?_
  rotate_left
  ·(intro w hSw; (try dsimp only at hSw); have u0 := hSw.2.1; have u1 := hSw.2.2; go_simp; try with_reducible rfl)
  try simp only [Act.put, sA, sB, sC]
  refine tk 3 66 (mf 8 4) hHeld ?_
  refine wpAnyJ_oneL (k := 4) (mf 8 5) (by kernel_rfl) (by kernel_rfl) rfl (fun K hK => ?_)
  (go_simp; refine (gsteps_any An Ad A nn cn nd cd cA ds l wr.drew (HH.out.below HBD.out.bl).hd ((Sl.of_own HOP.out).below HMD.out.b (Nat.le_refl _) |>.more HMD.out.b.size) (by omega) HPO.out).mono ?_; rintro e w5 ⟨A5, c5, rfl, hO5, hb5⟩; have HO5 := Lib.hid hO5.out; have HM5 := Lib.hid (HMD.out.later hb5.out); have HB5 := Lib.hid (HBD.out.later hb5.out); clear hO5 hb5; go_simp)
  refine hK.out _ _ (fun _ => ?_) (fun hHeld' => ?_)
  ·exact ⟨by rw [HX.out]; exact HM5.out.x.cell 1, HB5.out.bn.cell 0, HB5.out.bn.cell 1⟩
  replace hHeld := hHeld' rfl
  clear hHeld' hK K
  try dsimp only at hHeld
  refine wpAnyJ_oneL (k := 5) (mf 8 6) (by kernel_rfl) (by kernel_rfl) rfl (fun K hK => ?_)
  (refine step_app_d (d := some 68) (by rfl) (by rfl) (.tmp 64) (.tmp 67) (by rfl) el_stp (by rfl) HM5.out.o (by rfl) (Sl.of_own HO5.out) (sps_one _) (by have := HLU.out; omega) (by have := HLU.out; omega) (by have := HM5.out.x.lt; omega) ?_; intro A6 c6 w6 hown6 hgr6 hat6; have HM6 := Lib.hid (RrM.app HM5.out hgr6 hown6 rfl); have HB6 := Lib.hid (HB3.out.later HM6.out.2.1); have q7 := HM6.out.1.cell 1; have q8 := HM6.out.1.frozen 1; rw [← HX.out] at q7 q8; clear hown6 hgr6 hat6)
  refine hK.out _ _ (fun _ => ?_) (fun hHeld' => ?_)
  ·exact ⟨q7, HB6.out.bn.cell 0, HB6.out.bn.cell 1⟩
  replace hHeld := hHeld' rfl
  clear hHeld' hK K
  try dsimp only at hHeld
  refine tk 6 69 (mf 8 7) hHeld ?_
  refine wpAnyJ_oneL (k := 7) (mf 8 8) (by kernel_rfl) (by kernel_rfl) rfl (fun K hK => ?_)
  go_simp
  refine hK.out _ _ (fun h => by cases h) (fun _ => ?_)
  try clear hHeld
  clear hK K
  refine wpAnyJ_done (by kernel_rfl) ?_ _
  have HM8 := Lib.hid HM6.out.2.2
  rw [← HX.out] at HM8
  clear HM6 q7 q8 HM5 HMD HO5 HB5 HB6 HBD
  generalize World.setCell w6 _ _ = w8 at *
  have HB8 := Lib.hid (HB3.out.later HM8.out.b)
  have x0 := HM8.out.x.cell 0; have x1 := HM8.out.x.cell 1
  rw [← HX.out] at x0 x1
  have HLE : Hid ((rstS ds s co ls p).length = nl + (opsSt ds l).length) := by unfold Hid; rw [HST.out, List.length_append, List.length_map, HLD.out.2]
  by_cases h64 : 64 < nl + (opsSt ds l).length
  ·have q2 : decide (((nl + (opsSt ds l).length : Nat) : Int) > 64) = true := by simp; omega
   have q3 : decide ((64 : Int) < ((nl + (opsSt ds l).length : Nat) : Int)) = true := by simp; omega
   go_upto_region 17 with (fail)
   clear q2 q3 x0 x1
   have d0 := HB8.out.bp.cell 0; have d1 := HB8.out.bp.cell 1; have y0 := HB8.out.bp.frozen 0; have y1 := HB8.out.bp.frozen 1
   have HF : Hid (Blk ((w8.setCell ⟨w.heap.size + 2, 0, none⟩ (.string ⟨#[]⟩)).setCell ⟨w.heap.size + 2, 1, none⟩ (.slice none 0 0)) (w.heap.size + 2) 50 #[.string ⟨#[]⟩, .slice none 0 0]) := (HB8.out.bp.set 0 _).set 1 _
   have HL : Hid (Below w.heap.size w ((w8.setCell ⟨w.heap.size + 2, 0, none⟩ (.string ⟨#[]⟩)).setCell ⟨w.heap.size + 2, 1, none⟩ (.slice none 0 0))) := (HB8.out.bl.setCell (p := ⟨w.heap.size + 2, 0, none⟩) (by simp) _).setCell (p := ⟨w.heap.size + 2, 1, none⟩) (by simp) _
   clear HB8
   go_wp2_with fail
   clear d0 d1 y0 y1
   generalize World.setCell (World.setCell w8 _ _) _ _ = z at *
   have q8 := HF.out.c0
   have q9 := HF.out.c1
   exact bodyPost_ret (v := .tuple #[.agg #[.string ⟨#[]⟩, .slice none 0 0], .int .i64 (1)]) (by simp [results, Tryz.results22, go_sem, q8, q9]) rfl ⟨.inl ⟨_, rfl, .inr ⟨HZ.out, .inr ⟨p, HSO.out, by rw [HLE.out]; exact h64, rfl⟩⟩⟩, HL.out⟩
  ·have q2 : decide (((nl + (opsSt ds l).length : Nat) : Int) > 64) = false := by simp; omega
   have q3 : decide ((64 : Int) < ((nl + (opsSt ds l).length : Nat) : Int)) = false := by simp; omega
   go_upto_region 18 with (fail)
   clear q2 q3
   have d0 := HB8.out.bp.cell 0; have d1 := HB8.out.bp.cell 1; have y0 := HB8.out.bp.frozen 0; have y1 := HB8.out.bp.frozen 1
   have HF : Hid (Blk ((w8.setCell ⟨w.heap.size + 2, 0, none⟩ (.string ⟨#[82, 69, 83, 84, 79, 82, 69]⟩)).setCell ⟨w.heap.size + 2, 1, none⟩ (.slice A6 (nl + (opsSt ds l).length) c6)) (w.heap.size + 2) 50 #[.string ⟨#[82, 69, 83, 84, 79, 82, 69]⟩, .slice A6 (nl + (opsSt ds l).length) c6]) := (HB8.out.bp.set 0 _).set 1 _
   have HL : Hid (Below w.heap.size w ((w8.setCell ⟨w.heap.size + 2, 0, none⟩ (.string ⟨#[82, 69, 83, 84, 79, 82, 69]⟩)).setCell ⟨w.heap.size + 2, 1, none⟩ (.slice A6 (nl + (opsSt ds l).length) c6))) := (HB8.out.bl.setCell (p := ⟨w.heap.size + 2, 0, none⟩) (by simp) _).setCell (p := ⟨w.heap.size + 2, 1, none⟩) (by simp) _
   have HOW : Hid (((w8.setCell ⟨w.heap.size + 2, 0, none⟩ (.string ⟨#[82, 69, 83, 84, 79, 82, 69]⟩)).setCell ⟨w.heap.size + 2, 1, none⟩ (.slice A6 (nl + (opsSt ds l).length) c6)).ownsRow w.heap.size 56 5 (.slice A6 (nl + (opsSt ds l).length) c6) (nl + (opsSt ds l).length) (spsV (ls.map unl ++ opsSt ds l))) := (own_byF (own_byF HM8.out.o (by have := HB3.out.bp.lt; omega)) (by have := HB3.out.bp.lt; omega)).mono (by have := HB3.out.bp.lt; omega)
   clear HB8
   go_wp2_with fail
   clear d0 d1 y0 y1
   generalize World.setCell (World.setCell w8 _ _) _ _ = z at *
   have q8 := HF.out.c0
   have q9 := HF.out.c1
   exact bodyPost_ret (v := .tuple #[.agg #[.string ⟨#[82, 69, 83, 84, 79, 82, 69]⟩, .slice A6 (nl + (opsSt ds l).length) c6], .int .i64 (0)]) (by simp [results, Tryz.results22, go_sem, q8, q9]) rfl ⟨.inr ⟨HZ.out, p, A6, c6, HSO.out, by rw [HLE.out]; omega, by rw [HLE.out], by rw [HLE.out, HST.out, spsV_app, ← spsV_app]; exact HOW.out⟩, HL.out⟩
 have q1 : decide ((k : Int) < (nl : Int)) = true := by simp; omega
 have HLO := Lib.hid (HH.out.below HBW.out.bl).hl
 obtain ⟨b1, o1, f, rfl, hb1, hf, hc1⟩ := HLO.out.at (l := ls) (f := Lk.cells) (fun _ => rfl) (by decide) hlt
 have e0 : wr.cell? ⟨b1, o1 + k * 3, none⟩ = some (.int .i64 f.dev) := hc1 0 _ rfl
 have e1 : wr.cell? ⟨b1, o1 + k * 3 + 1, none⟩ = some (.int .i64 f.pos) := hc1 1 _ rfl
 have e2 : wr.cell? ⟨b1, o1 + k * 3 + 2, none⟩ = some (.int .i64 f.key) := hc1 2 _ rfl
 have HTK : Hid ((ls.take (k + 1)).map unl = (ls.take k).map unl ++ [unl f]) := by unfold Hid; rw [List.take_add_one, hf, List.map_append]; rfl
 have HAB := Lib.hid (Blk.new wr 59 #[.int .i64 f.dev, .int .i64 f.pos, .int .i64 f.key])
 have HMA := Lib.hid (HM.out.later ((Below.refl wr.heap.size wr).alloc (Nat.le_refl _) (.cells #[.int .i64 f.dev, .int .i64 f.pos, .int .i64 f.key] 59)))
 have hm2 := HLO.out.le
 have hkk : IntKind.i64.wrap ((k : Int) + 1) = (k : Int) + 1 := IntWalk.i64_in _ (by omega)
 have hk1 : k ≤ 128 := by omega
 have hk2 : k < ls.length := by have := HLD.out.2; omega
 clear hc1 HLO
 go_upto_region 13 with (fail)
 clear e0 e1 e2
 generalize World.alloc wr _ = U at *
 have p0 := HAB.out.cell 0; have p2 := HAB.out.cell 2
 have x1 := HMA.out.x.cell 1
 rw [← HX.out] at x1
 go_upto_region 14 with (at_builtin; go_must (refine wpList_app rfl (.tmp 53) (.tmp 59) rfl el_stp (by rfl) (HMA.out.later ((Below.refl U.heap.size U).alloc (Nat.le_refl _) _)).o (by rfl) (Sl.newest (n := 1) rfl rfl (by decide)) (by simp [Value.oneCell']) (by omega) (by omega) (by have := HMA.out.x.lt; simp; omega) ?_; intro A6 c6 w6 hown6 hgr6 hat6; have HM6 := Lib.hid (RrM.app (m := 1) (l' := [unl f]) (HMA.out.later ((Below.refl U.heap.size U).alloc (Nat.le_refl _) (.cells #[.int .i64 4, .int .i64 f.dev, .int .i64 0, .int .i64 0, .int .i64 f.key] 56))) hgr6 (by simpa [spsV, Sp.cells, unl] using hown6) rfl); have q7 := HM6.out.1.cell 1; have q8 := HM6.out.1.frozen 1; rw [← HX.out] at q7 q8; clear hown6 hgr6 hat6))
 have HM8 := Lib.hid HM6.out.2.2
 rw [← HX.out] at HM8
 clear HM6 q7 q8 HMA HAB p0 p2 x1
 generalize World.setCell w6 _ _ = w8 at *
 rw [HTK.out.symm] at HM8
 go_wp2_with fail
 refine Handed.intro (ls.length - (k + 1)) (by omega) (hJ1 _ _ _ (LpI1.back 48 ?_ (by kernel_rfl)))
 dsimp only [gt]
 exact ⟨k + 1, A6, c6, by go_num, by have := HLD.out.2; omega, rfl, HM8⟩
end Go.Proofs.YtfaknfmndafllaaGreatDoor
namespace Go.Proofs.YtfaknfmndafllaaGreatDoor
theorem bay_chk : chkD 6 [nm2 [78] 5, nm2 [78] 4, nm2 [78] 3, nm2 [78] 2, nm2 [78] 1, nm2 [78] 0] (bayD ++ bayE 0) = 0 ∧ chkD 6 [nm2 [78] 5, nm2 [78] 4, nm2 [78] 3, nm2 [78] 2, nm2 [78] 1, nm2 [78] 0] (bayD ++ bayE 1) = 0 ∧ chkD 6 [nm2 [78] 5, nm2 [78] 4, nm2 [78] 3, nm2 [78] 2, nm2 [78] 1, nm2 [78] 0] (bayD ++ bayE 2) = 0 ∧ chkD 6 [nm2 [78] 5, nm2 [78] 4, nm2 [78] 3, nm2 [78] 2, nm2 [78] 1, nm2 [78] 0] (bayD ++ bayE 3) = 0 := ⟨by kernel_rfl, by kernel_rfl, by kernel_rfl, by kernel_rfl⟩
section
variable {ns : List Nd} {ds : List Dv} {s : List Int}
theorem bay_len (k : Nat) : (bayD ++ bayE k).length ≤ 9 := by
 rcases k with _ | _ | _ | k
 ·decide
 ·decide
 ·decide
 ·exact (by decide : (bayD ++ bayE 3).length ≤ 9)
theorem BayOk.dl (h : BayOk ns ds s) : ds.length ≤ 9 := by
 obtain ⟨k, rfl⟩ := h.dv
 exact bay_len k
theorem BayOk.check (h : BayOk ns ds s) : checkN ns ds = 0 := by
 have hdl := h.dl
 have hN := chkN_all (ns := ns) (fun i x hx => by
  obtain ⟨h1, h2, h3, h4, h5⟩ := h.nok i x hx
  have hi : i < ns.length := (List.getElem?_eq_some_iff.1 hx).1
  have := h.n6
  unfold ndErr
  rw [h1, toL_mk, if_neg (by rw [nm2_name 78 i (by decide) (by omega)]; simp), if_neg ?_, if_neg (by omega), if_neg (by simp [compB]; omega)]
  intro hm
  obtain ⟨k, y, hk, hy, he⟩ := mem_Un.1 hm
  rw [(h.nok k y hy).1, toL_mk] at he
  have := (nm2_inj (by omega) (by omega) rfl he).2
  omega) _ 0 rfl
 have hD : chkD ns.length (usedN [] ns) ds = 0 := by
  have hk := h.nok
  have h6 := h.n6
  obtain ⟨k, rfl⟩ := h.dv
  match ns, h6, hk with
  | [a, b, c, d, e, f], _, hk =>
   have ha := (hk 0 a rfl).1; have hb := (hk 1 b rfl).1; have hc := (hk 2 c rfl).1; have hd := (hk 3 d rfl).1; have he := (hk 4 e rfl).1; have hf := (hk 5 f rfl).1
   have hu : usedN [] [a, b, c, d, e, f] = [nm2 [78] 5, nm2 [78] 4, nm2 [78] 3, nm2 [78] 2, nm2 [78] 1, nm2 [78] 0] := by
    simp only [usedN, ha, hb, hc, hd, he, hf, toL_mk]
   rw [hu]
   show chkD 6 _ _ = 0
   rcases k with _ | _ | _ | k
   ·exact bay_chk.1
   ·exact bay_chk.2.1
   ·exact bay_chk.2.2.1
   ·exact bay_chk.2.2.2
 unfold checkN
 have h0 : chkN [] ns = 0 := hN
 rw [if_neg (by have := h.n6; omega), if_neg (by omega), if_pos h0]
 exact hD
theorem BayOk.state (h : BayOk ns ds s) : stateErr ns ds s = 0 := by
 unfold stateErr
 rw [if_neg (by rw [h.check]; simp), if_neg (by rw [h.sl]; simp), if_pos h.ps]
theorem BayOk.names (h : BayOk ns ds s) : (∀ x ∈ ns, x.name.size ≤ 9223372036854775807) ∧ ∀ x ∈ ds, x.name.size ≤ 9223372036854775807 := by
 refine ⟨fun x hx => ?_, fun x hx => ?_⟩
 ·obtain ⟨i, hi, rfl⟩ := List.getElem_of_mem hx
  rw [(h.nok i _ (List.getElem?_eq_getElem hi)).1, ← toL_len, toL_mk]
  simp [nm2]
 ·obtain ⟨k, rfl⟩ := h.dv
  have hall : ∀ x ∈ bayD ++ bayE k, x.name.size ≤ 100 := by
   rcases k with _ | _ | _ | k
   ·decide
   ·decide
   ·decide
   ·exact (by decide : ∀ x ∈ bayD ++ bayE 3, x.name.size ≤ 100)
  have := hall x hx
  omega
theorem BayOk.problem (h : BayOk ns ds s) {co : Int} {ls : List Lk} {pr : List Int} (hg : grErr ns ds co ls pr = 0) (hd : difB ls s = false) : pbErr ns ds s co ls pr = 0 := by
 have h1 : mvErr ns ds co ls pr = 0 := by
  unfold mvErr
  rw [if_neg (by rw [h.check]; simp), if_neg (by rw [hg]; simp), if_neg (by have := mvS_len ds ls co ds.length; have := h.dl; omega)]
 unfold pbErr
 rw [if_neg (by rw [h1]; simp), if_neg (by rw [hd]; simp)]
end
end Go.Proofs.YtfaknfmndafllaaGreatDoor
namespace Go.Proofs.YtfaknfmndafllaaGreatDoor
open Go.RowKit
def MyIn (hz : List Int → List Int) (g : Int → Prop) (rows : List (List Int)) (k : Nat) (out : List Int) : Prop := out.length ≤ 7 * k ∧ out.Nodup ∧ ∀ h : Int, h ∈ out ↔ ∃ s ∈ rows.take k, h ∈ hz s ∧ g h
def MyIn2 (hz : List Int → List Int) (g : Int → Prop) (rows : List (List Int)) (k : Nat) (s : List Int) (j : Nat) (out : List Int) : Prop := out.length ≤ 7 * k + j ∧ out.Nodup ∧ ∀ h : Int, h ∈ out ↔ (∃ s ∈ rows.take k, h ∈ hz s ∧ g h) ∨ h ∈ (hz s).take j ∧ g h
section
variable {hz : List Int → List Int} {g : Int → Prop} {rows : List (List Int)} {k j : Nat} {s out : List Int} {x : Int}
theorem MyIn.start : MyIn hz g rows 0 [] := ⟨by simp, List.nodup_nil, fun h => by simp⟩
theorem MyIn.two (h : MyIn hz g rows k out) : MyIn2 hz g rows k s 0 out := ⟨by have := h.1; omega, h.2.1, fun y => by rw [h.2.2 y]; simp⟩
theorem MyIn2.pass (h : MyIn2 hz g rows k s j out) (hx : (hz s)[j]? = some x) (hm : x ∈ out ∨ ¬ g x) : MyIn2 hz g rows k s (j + 1) out := by
 refine ⟨by have := h.1; omega, h.2.1, fun y => ?_⟩
 rw [take_snoc hx, List.mem_append, List.mem_singleton]
 constructor
 ·intro hy
  rcases (h.2.2 y).1 hy with h1 | h1
  ·exact .inl h1
  ·exact .inr ⟨.inl h1.1, h1.2⟩
 ·rintro (h1 | ⟨h1 | h1, h2⟩)
  ·exact (h.2.2 y).2 (.inl h1)
  ·exact (h.2.2 y).2 (.inr ⟨h1, h2⟩)
  ·subst h1
   rcases hm with hm | hm
   ·exact hm
   ·exact absurd h2 hm
theorem MyIn2.put (h : MyIn2 hz g rows k s j out) (hx : (hz s)[j]? = some x) (hm : x ∉ out) (hg : g x) : MyIn2 hz g rows k s (j + 1) (out ++ [x]) := by
 refine ⟨by have := h.1; rw [List.length_append, List.length_singleton]; omega, ?_, fun y => ?_⟩
 ·rw [List.nodup_append]
  exact ⟨h.2.1, by simp, fun a ha b hb e => hm (by rw [List.mem_singleton.1 hb] at e; rw [← e]; exact ha)⟩
 ·rw [take_snoc hx, List.mem_append, List.mem_append, List.mem_singleton, h.2.2 y]
  constructor
  ·rintro ((h1 | h1) | rfl)
   ·exact .inl h1
   ·exact .inr ⟨.inl h1.1, h1.2⟩
   ·exact .inr ⟨.inr rfl, hg⟩
  ·rintro (h1 | ⟨h1 | h1, h2⟩)
   ·exact .inl (.inl h1)
   ·exact .inl (.inr ⟨h1, h2⟩)
   ·exact .inr h1
theorem MyIn2.done (h : MyIn2 hz g rows k s j out) (hj : (hz s).length = j) (h7 : j ≤ 7) (hs : rows[k]? = some s) : MyIn hz g rows (k + 1) out := by
 refine ⟨by have := h.1; omega, h.2.1, fun y => ?_⟩
 rw [h.2.2 y, show (hz s).take j = hz s from List.take_of_length_le (by omega), take_snoc hs]
 constructor
 ·rintro (⟨t, ht, h1⟩ | h1)
  ·exact ⟨t, List.mem_append_left _ ht, h1⟩
  ·exact ⟨s, by simp, h1⟩
 ·rintro ⟨t, ht, h1⟩
  rcases List.mem_append.1 ht with h2 | h2
  ·exact .inl ⟨t, h2, h1⟩
  ·rw [List.mem_singleton.1 h2] at h1; exact .inr h1
end
end Go.Proofs.YtfaknfmndafllaaGreatDoor
namespace Go.Proofs.YtfaknfmndafllaaGreatDoor
open Go.RowKit
def fillL (m : List Int) (p : Int) : List Int := m.map fun x => if x = 3 then p else x
def FillTo (m : List Int) (p : Int) (j : Nat) (l : List Int) : Prop := l.length = m.length ∧ ∀ d, d < m.length → l[d]? = some (if m[d]? = some 3 ∧ cntN m d < j then p else m.getD d 0)
section
variable {m l : List Int} {p : Int} {j d : Nat}
theorem FillTo.start : FillTo m p 0 m := ⟨rfl, fun d hd => by rw [if_neg (by omega), List.getD_eq_getElem?_getD, List.getElem?_eq_getElem hd]; rfl⟩
theorem FillTo.step (h : FillTo m p j l) (hd : (unkN m m.length)[j]? = some d) : FillTo m p (j + 1) (l.set d p) := by
 obtain ⟨h3, hlt, hc⟩ := unkN_at m _ _ _ hd
 refine ⟨by simp [h.1], fun e he => ?_⟩
 rw [List.getElem?_set]
 by_cases hde : d = e
 ·subst hde
  rw [if_pos rfl, if_pos (by rw [h.1]; exact he), if_pos ⟨h3, by omega⟩]
 ·rw [if_neg hde, h.2 e he]
  congr 1
  by_cases h3e : m[e]? = some 3
  ·have : cntN m e ≠ j := fun hh => hde (cntN_inj h3 h3e (by omega))
   by_cases hlt2 : cntN m e < j
   ·rw [if_pos ⟨h3e, hlt2⟩, if_pos ⟨h3e, by omega⟩]
   ·rw [if_neg (fun x => hlt2 x.2), if_neg (fun x => by omega)]
  ·rw [if_neg (fun x => h3e x.1), if_neg (fun x => h3e x.1)]
theorem FillTo.done (h : FillTo m p (cntN m m.length) l) : l = fillL m p := by
 apply List.ext_getElem?
 intro d
 unfold fillL
 rw [List.getElem?_map]
 by_cases hd : d < m.length
 ·rw [h.2 d hd, List.getD_eq_getElem?_getD, List.getElem?_eq_getElem hd]
  simp only [Option.map_some, Option.getD_some, Option.some.injEq]
  by_cases h3 : m[d] = 3
  ·rw [if_pos h3, if_pos ⟨h3, cntN_lt (by rw [List.getElem?_eq_getElem hd, h3]) hd⟩]
  ·rw [if_neg h3, if_neg (fun x => h3 x.1)]
 ·rw [List.getElem?_eq_none (by rw [h.1]; omega), List.getElem?_eq_none (by omega)]; rfl
end
end Go.Proofs.YtfaknfmndafllaaGreatDoor
namespace Go.Proofs.YtfaknfmndafllaaGreatDoor
open Go.RowKit
end Go.Proofs.YtfaknfmndafllaaGreatDoor
namespace Go.Proofs.YtfaknfmndafllaaGreatDoor
def dsE : List Dv := [⟨⟨#[83]⟩, 5, 0, -1, 0⟩, ⟨⟨#[68]⟩, 3, 0, 1, 0⟩, ⟨⟨#[69]⟩, 4, 1, -1, 0⟩]
theorem dsE_cases {i : Nat} {x : Dv} (h : dsE[i]? = some x) : (i = 0 ∧ x = ⟨⟨#[83]⟩, 5, 0, -1, 0⟩) ∨ (i = 1 ∧ x = ⟨⟨#[68]⟩, 3, 0, 1, 0⟩) ∨ (i = 2 ∧ x = ⟨⟨#[69]⟩, 4, 1, -1, 0⟩) := by
 match i, h with
 | 0, h => left; exact ⟨rfl, (Option.some.inj h).symm⟩
 | 1, h => right; left; exact ⟨rfl, (Option.some.inj h).symm⟩
 | 2, h => right; right; exact ⟨rfl, (Option.some.inj h).symm⟩
 | i + 3, h => simp [dsE] at h
theorem partsE (p q : Int) : IsParts 2 dsE [p, 1, q] [0, 1] := by
 refine LInv.final ⟨rfl, fun v hv => ?_⟩ (fun i hi x hx hc hj => ?_)
 ·rcases (show v = 0 ∨ v = 1 by omega) with rfl | rfl
  ·exact ⟨0, rfl, Nat.le_refl _, Conn.refl _ _ _⟩
  ·exact ⟨1, rfl, Nat.le_refl _, Conn.refl _ _ _⟩
 ·rcases dsE_cases hx with ⟨rfl, rfl⟩ | ⟨rfl, rfl⟩ | ⟨rfl, rfl⟩
  ·cases hj
  ·cases hc
  ·cases hj
theorem connE01 (p q : Int) : Conn dsE [p, 2, q] 0 1 := by
 have := Conn.edge (ds := dsE) (s := [p, 2, q]) (u := 0) (i := 1) (x := ⟨⟨#[68]⟩, 3, 0, 1, 0⟩) rfl rfl (by decide)
 exact this
theorem apartE (p q : Int) : ¬ Conn dsE [p, 1, q] 0 1 := fun hc => by
 have := ((partsE p q).iff (u := 0) (v := 1) (by decide) (by decide)).2 hc
 simp at this
theorem liveE0 (q r : Int) : HasK liveK dsE [2, q, r] 0 := ⟨0, _, rfl, rfl, .inl rfl, Conn.refl _ _ _⟩
theorem liveE1 (r : Int) : HasK liveK dsE [2, 2, r] 1 := ⟨0, _, rfl, rfl, .inl rfl, connE01 2 r⟩
theorem deadE1 (r : Int) : ¬ HasK liveK dsE [2, 1, r] 1 := by
 rintro ⟨i, x, hx, hs, hk, hc⟩
 rcases dsE_cases hx with ⟨rfl, rfl⟩ | ⟨rfl, rfl⟩ | ⟨rfl, rfl⟩
 ·exact apartE 2 r hc
 ·rcases hk with hk | hk <;> cases hk
 ·rcases hk with hk | hk <;> cases hk
theorem earthE1 (p q : Int) : HasK (· = 4) dsE [p, q, 2] 1 := ⟨2, _, rfl, rfl, rfl, Conn.refl _ _ _⟩
theorem noEarthE (p q : Int) (v : Int) : ¬ HasK (· = 4) dsE [p, q, 1] v := by
 rintro ⟨i, x, hx, hs, hk, _⟩
 rcases dsE_cases hx with ⟨rfl, rfl⟩ | ⟨rfl, rfl⟩ | ⟨rfl, rfl⟩
 ·cases hk
 ·cases hk
 ·cases hs
theorem colsE_of {s c : List Int} (x0 x1 : Int) (hc : c = [x0, x1]) (h0 : colV dsE s 0 = x0) (h1 : colV dsE s 1 = x1) : IsCols 2 dsE s c := by
 subst hc
 refine ⟨rfl, fun v hv => ?_⟩
 rcases (show v = 0 ∨ v = 1 by omega) with rfl | rfl
 ·simpa using h0.symm
 ·simpa using h1.symm
theorem noLostE (s s2 : List Int) : lostB nsA dsE s s2 = false := by
 unfold lostB
 simp only [decide_eq_false_iff_not]
 rintro ⟨k, y, hy, hc, _⟩
 match k, hy with
 | 0, hy => rw [← Option.some.inj hy] at hc; cases hc
 | 1, hy => rw [← Option.some.inj hy] at hc; cases hc
 | k + 2, hy => simp [nsA] at hy
theorem permE1 : permB nsA dsE 0 [] [] [5] [2, 1, 2] 1 = false := by
 have h4 : dutyAt 2 nsA dsE [2, 1, 2] ((1 : Nat) : Int) ⟨⟨#[68]⟩, 3, 0, 1, 0⟩ = 4 := by
  have e2 : withL [2, 1, 2] ((1 : Nat) : Int) 2 = [2, 2, 2] := by decide
  unfold dutyAt dutyV
  rw [e2, if_pos]
  have h : colsOf 2 dsE [2, 2, 2] = [colV dsE [2, 2, 2] 0, 3] := colsOf_eq (colsE_of _ 3 rfl rfl (by unfold colV; rw [ind_pos (liveE1 2), ind_pos (earthE1 2 2)]; rfl))
  rw [h]
  simp [faultB, joinsB]
 have hm : (1 : Int) ∈ hzD nsA dsE [2, 1, 2] ((1 : Nat) : Int) 2 0 [] [] := by
  show (1 : Int) ∈ hzAt 2 nsA dsE [2, 1, 2] 1 2 0 [] [] ⟨⟨#[68]⟩, 3, 0, 1, 0⟩
  unfold hzAt
  rw [if_neg (by decide), hzL_mem, h4]
  exact .inl ⟨rfl, rfl⟩
 unfold permB
 rw [List.all_eq_false]
 exact ⟨1, hm, by decide⟩
theorem permE2 : permB nsA dsE 0 [] [] [5] [2, 1, 2] 2 = true := by
 have h4 : dutyAt 2 nsA dsE [2, 1, 2] ((2 : Nat) : Int) ⟨⟨#[69]⟩, 4, 1, -1, 0⟩ ≠ 4 := by
  have e2 : withL [2, 1, 2] ((2 : Nat) : Int) 2 = [2, 1, 2] := by decide
  have h : colsOf 2 dsE [2, 1, 2] = [colV dsE [2, 1, 2] 0, 2] := colsOf_eq (colsE_of _ 2 rfl rfl (by unfold colV; rw [ind_neg (deadE1 2), ind_pos (earthE1 2 1)]; rfl))
  unfold dutyAt dutyV
  rw [e2, h, if_neg (by simp [faultB, joinsB])]
  split
  ·decide
  split
  ·decide
  split <;> decide
 have he : hzD nsA dsE [2, 1, 2] ((2 : Nat) : Int) 1 0 [] [] = [] := by
  show hzAt 2 nsA dsE [2, 1, 2] 2 1 0 [] [] ⟨⟨#[69]⟩, 4, 1, -1, 0⟩ = []
  unfold hzAt
  rw [if_neg (by decide), noLostE]
  have h5 : dutyAt 2 nsA dsE [2, 1, 2] 2 ⟨⟨#[69]⟩, 4, 1, -1, 0⟩ ≠ 4 := h4
  simp [hzL, pickH, badB, h5, lockB]
 unfold permB
 show (hzD nsA dsE [2, 1, 2] ((2 : Nat) : Int) 1 0 [] []).all (hasB [5]) = true
 rw [he]; rfl
theorem permE3 : permB nsA dsE 0 [] [] [5] [2, 1, 1] 1 = true := by
 have hd : dutyAt 2 nsA dsE [2, 1, 1] ((1 : Nat) : Int) ⟨⟨#[68]⟩, 3, 0, 1, 0⟩ = 1 := by
  have e1 : withL [2, 1, 1] ((1 : Nat) : Int) 1 = [2, 1, 1] := by decide
  have e2 : withL [2, 1, 1] ((1 : Nat) : Int) 2 = [2, 2, 1] := by decide
  unfold dutyAt
  rw [e1, e2, partsOf_eq (partsE 2 1), colsOf_eq (colsE_of (s := [2, 1, 1]) 1 0 rfl (by unfold colV; rw [ind_pos (liveE0 1 1), ind_neg (noEarthE 2 1 0)]; rfl) (by unfold colV; rw [ind_neg (deadE1 1), ind_neg (noEarthE 2 1 1)]; rfl)), colsOf_eq (colsE_of (s := [2, 2, 1]) 1 1 rfl (by unfold colV; rw [ind_pos (liveE0 2 1), ind_neg (noEarthE 2 2 0)]; rfl) (by unfold colV; rw [ind_pos (liveE1 1), ind_neg (noEarthE 2 2 1)]; rfl))]
  unfold dutyV
  rw [if_neg (by decide), if_neg (by decide), noLoad, if_neg (by decide), if_pos (by decide)]
 have he : hzD nsA dsE [2, 1, 1] ((1 : Nat) : Int) 2 0 [] [] = [] := by
  show hzAt 2 nsA dsE [2, 1, 1] 1 2 0 [] [] ⟨⟨#[68]⟩, 3, 0, 1, 0⟩ = []
  unfold hzAt
  rw [if_neg (by decide), noLostE, hd]
  simp [hzL, pickH, badB, lockB]
 unfold permB
 show (hzD nsA dsE [2, 1, 1] ((1 : Nat) : Int) 2 0 [] []).all (hasB [5]) = true
 rw [he]; rfl
theorem mvE : (mvS dsE [] 0 dsE.length).length = 2 := by kernel_rfl
theorem mvE0 : mvF dsE [] 0 0 = 1 := by kernel_rfl
theorem mvE1 : mvF dsE [] 0 1 = 2 := by kernel_rfl
theorem errE : srErr nsA dsE [2, 1, 2] [2, 2, 1] 0 [] [] = 0 := by kernel_rfl
theorem wayE : SomeIs (stS (permB nsA dsE 0 [] [] [5]) (mvF dsE [] 0) (mvS dsE [] 0 dsE.length).length) [2, 1, 2] (goalT [2, 2, 1]) [1, 0] := by
 rw [mvE]
 have h0 : stS (permB nsA dsE 0 [] [] [5]) (mvF dsE [] 0) 2 [2, 1, 2] 0 = none := by
  unfold stS
  rw [mvE0, permE1, if_neg (by simp)]
 have h1 : stS (permB nsA dsE 0 [] [] [5]) (mvF dsE [] 0) 2 [2, 1, 2] 1 = some [2, 1, 1] := by
  unfold stS
  rw [mvE1, permE2, if_pos ⟨by decide, rfl⟩]; rfl
 have h2 : stS (permB nsA dsE 0 [] [] [5]) (mvF dsE [] 0) 2 [2, 1, 1] 0 = some [2, 2, 1] := by
  unfold stS
  rw [mvE0, permE3, if_pos ⟨by decide, rfl⟩]; rfl
 have hbig : ∀ (s : List Int) (i : Nat), 2 ≤ i → stS (permB nsA dsE 0 [] [] [5]) (mvF dsE [] 0) 2 s i = none := fun s i hi => by
  unfold stS
  rw [if_neg (by omega)]
 refine ⟨[2, 2, 1], 0, ?_, rfl, fun q b' c' hw hg => ?_⟩
 ·simp only [wk, h1, h2, Option.bind_some]
 ·have hb : b' = [2, 2, 1] ∧ c' = 0 := by
   unfold goalT at hg
   split at hg
   ·next h => exact ⟨h, by injection hg with hg; exact hg.symm⟩
   ·cases hg
  obtain ⟨rfl, rfl⟩ := hb
  match q, hw with
  | [], hw => injection hw with hw; exact absurd hw (by decide)
  | [i], hw =>
   exfalso
   rcases (show i = 0 ∨ i = 1 ∨ 2 ≤ i by omega) with rfl | rfl | hi
   ·simp only [wk, h0, Option.bind_none] at hw; cases hw
   ·simp only [wk, h1, Option.bind_some] at hw
    injection hw with hw; exact absurd hw (by decide)
   ·simp only [wk, hbig _ i hi, Option.bind_none] at hw; cases hw
  | [i, j], hw =>
   refine ⟨Nat.le_refl _, fun _ => ⟨Int.le_refl _, fun _ => ?_⟩⟩
   rcases (show i = 0 ∨ i = 1 ∨ 2 ≤ i by omega) with rfl | rfl | hi
   ·simp only [wk, h0, Option.bind_none] at hw; cases hw
   ·refine .inr ⟨rfl, ?_⟩
    rcases Nat.eq_zero_or_pos j with rfl | hj
    ·exact .inr ⟨rfl, trivial⟩
    ·exact .inl hj
   ·simp only [wk, hbig _ i hi, Option.bind_none] at hw; cases hw
  | i :: j :: k :: r, _ => exact ⟨by simp, fun h => by simp at h⟩
theorem opsE : opsP (mvF dsE [] 0) [2, 1, 2] [1, 0] = [(2, 1), (1, 2)] := by
 simp only [opsP, mvE0, mvE1]; rfl
theorem difE : dfL [2, 1, 2] [2, 2, 1] 3 = [1, 2] := by kernel_rfl
end Go.Proofs.YtfaknfmndafllaaGreatDoor
