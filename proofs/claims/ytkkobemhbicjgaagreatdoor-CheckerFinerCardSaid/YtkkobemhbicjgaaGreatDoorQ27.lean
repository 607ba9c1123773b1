import Derived.Test.YtkkobemhbicjgaaGreatDoorQ17
import Derived.Test.YtkkobemhbicjgaaGreatDoorQ26
import Derived.Shelf.SlicesE.DeleteFunc
import Derived.Lib.SliceRun
set_option maxRecDepth 100000
set_option maxHeartbeats 4000000
namespace Go.Proofs.YtkkobemhbicjgaaGreatDoor
open Go.RowKit
theorem Sl.over {w : World} {B n c blk m size : Nat} {A : Option Addr} {xs : List Value} {os : Array Obj} {dk : Array Int} (h : Sl w B size A n c xs) (hne : ∀ b off, A = some ⟨b, off, none⟩ → b ≠ blk ∧ b < w.heap.size) : Sl (sortWorld (Value.int .i64) w blk 0 m dk os) B size A n c xs := by
 obtain ⟨h1, h2, h3, h4, h5⟩ := h
 refine ⟨h1, h2, h3, h4, fun hn => ?_⟩
 obtain ⟨b, off, e, hb, hc⟩ := h5 hn
 obtain ⟨h6, h7⟩ := hne b off e
 refine ⟨b, off, e, hb, fun j u hu => ?_⟩
 unfold sortWorld
 rw [Go.Sort.cell?_grow _ _ _ (by show b < (Go.Sort.putRow _ _ _ _ _).heap.size; rw [Go.Sort.size_putRow]; exact h7), Go.Sort.cell?_putRow_other _ _ blk 0 _ _ (Or.inl h6)]
 exact hc j u hu
theorem delf_any (g : Nat) (lb : Array Value) (p : Int → Bool) (eg : ∀ args w, (callFunc g args).run Tryz.prog w = .ok (.enter g args) w) (A : Option Addr) (n c base : Nat) (l : List Int) (w : World) (h : IntsO w base A n c l) (hn : n ≤ 1000000)
 (hp : PredAt Tryz.prog g lb (Value.int .i64) p w) (hpo : ∀ blk, A = some ⟨blk, 0, none⟩ → PredOver Tryz.prog g lb (Value.int .i64) p blk 0 n w) :
 Calls Tryz.prog 177 #[.slice A n c, .func (.func g) #[] lb] w fun e w' => ∃ m, e = .returned (.slice A m c) ∧ Hid (IntsO w' base A m c (l.filter fun x => !p x)) ∧ Hid (w.grownBy w' (Value.slice A n c).ownBlock) := by
 have hl := h.len
 rcases h.2 with ⟨hv, h0⟩ | ⟨gb, cap, cur, hv, hb, hh, hnc, hm, hs, ht⟩
 ·injection hv with h1 h2 h3
  subst h1 h3 h0
  have : l = [] := List.eq_nil_of_length_eq_zero hl
  subst this
  have HH := Lib.hid h
  clear h hp hpo hl hn
  go_enter Tryz.func177, Tryz.ntmps177
  go_wp2_with fail
  refine (Tryz.slices_IndexFunc_empty (α := Int) none 0 (.func (.func g) #[] lb) w).mono ?_
  rintro e w1 ⟨rfl, rfl⟩
  go_wp2_with fail
  go_ret
  exact ⟨0, rfl, HH.out, grown_refl _ _⟩
 ·injection hv with h1 h2 h3
  subst h1 h3
  subst hl
  rw [Nat.mul_one, intsV_map] at ht
  have hH := holds_of_blockI hh ht
  refine (Tryz.slices_DeleteFunc (Value.int .i64) (fun _ => rfl) p g lb eg 0 Tryz.zeroValue3 gb 0 c l.toArray w hp (by simpa using hpo gb rfl) hH (by simp; omega) (by simpa using hnc)).mono ?_
  rintro e w1 ⟨rfl, q, rfl⟩
  simp only [List.size_toArray]
  obtain ⟨ts, hts⟩ : ∃ ts, ts = (l.filter fun x => !p x) ++ List.replicate (l.length - (l.filter fun x => !p x).length) 0 := ⟨_, rfl⟩
  have hfl : (l.filter fun x => !p x).length ≤ l.length := List.length_filter_le _ _
  have htl : ts.length = l.length := by rw [hts, List.length_append, List.length_replicate]; omega
  rw [← hts]
  refine ⟨_, rfl, ?_, ?_⟩
  ·have h2 := heap_sortedI (n := q) (os := #[]) ts.toArray hh
   rw [Go.Sort.grow_empty] at h2
   unfold Hid IntsO
   rw [intsV_map]
   refine ⟨by simp, .inr ⟨gb, c, _, rfl, hb, h2, by omega, hm, by simp [Go.Sort.putCells, hs], ?_⟩⟩
   have h3 := take_putCellsI cur ts (by omega)
   rw [Nat.mul_one]
   have h4 := congrArg (List.take (l.filter fun x => !p x).length) h3
   rw [List.take_take, Nat.min_eq_left (by omega)] at h4
   rw [h4, ← List.map_take, hts, List.take_left]
  ·have := grownBy_sortedI (w := w) (g := gb) (n := q) (os := #[]) ts.toArray
   rw [Go.Sort.grow_empty] at this
   exact this
theorem lost1_gives (Ab : Option Addr) (mb cb bb B : Nat) (l : List Int) (x : Int) (W : World) (hc : W.cell? ⟨bb, 0, none⟩ = some (.slice Ab mb cb)) (hs : Sl W B 1 Ab mb cb (intsV l)) :
 FnGives Tryz.prog 178 #[.pointer (some ⟨bb, 0, none⟩)] #[.int .i64 x] (.bool (hasB l x)) W := by
 have HC := Lib.hid (contains_any Ab mb cb B l x W hs)
 show Calls Tryz.prog 178 #[.int .i64 x, .pointer (some ⟨bb, 0, none⟩)] W _
 clear hs
 go_enter Tryz.func178, Tryz.ntmps178
 go_wp2_with fail
 refine HC.out.mono ?_
 rintro e w1 ⟨rfl, rfl⟩
 go_wp2_with fail
 go_ret
 exact ⟨rfl, 0, rfl⟩
theorem Lost_ok (An Ad As At : Option Addr) (nn cn nd cd n c n2 c2 Bn Bd Bs B2 : Nat) (ns : List Nd) (ds : List Dv) (s s2 : List Int) (w : World) (hL : Laid w) (hn : Sl w Bn 3 An nn cn (ns.flatMap Nd.cells)) (hBn : Bn ≤ w.heap.size) (hd : Sl w Bd 5 Ad nd cd (ds.flatMap Dv.cells)) (hBd : Bd ≤ w.heap.size) (hs : Sl w Bs 1 As n c (intsV s)) (hBs : Bs ≤ w.heap.size) (hs2 : Sl w B2 1 At n2 c2 (intsV s2)) (hB2 : B2 ≤ w.heap.size)
 (hsn : ∀ x ∈ ns, x.name.size ≤ 9223372036854775807) (hsd : ∀ x ∈ ds, x.name.size ≤ 9223372036854775807) (h0 : stateErr ns ds s = 0) (h02 : stateErr ns ds s2 = 0) (hnn : nn ≤ 10000) (hnd : nd ≤ 10000) (hl : nd ≤ n) (hl2 : nd ≤ n2) (hends : EndsOk nn ds) (hA : AOk nn ds) :
 Calls Tryz.prog 149 #[.agg #[.slice An nn cn, .slice Ad nd cd], .slice As n c, .slice At n2 c2] w fun e w' => ∃ Ao m co out k, e = .returned (.tuple #[.slice Ao m co, .int .i64 k, .int .i64 0]) ∧ Hid (out.length = m) ∧ Hid (LostL ns ds s s2 out) ∧ Hid (IntsO w' w.heap.size Ao m co out) ∧ Hid (Below w.heap.size w w') := by
 have HLN := Lib.hid (hn.len (fun _ => rfl) (by decide))
 have HB : Hid (Below w.heap.size w (w.alloc (.cells #[.slice An nn cn, .slice Ad nd cd] 30))) := (Below.refl _ _).alloc (Nat.le_refl _) _
 have HK := Lib.hid (Blk.new w 30 #[.slice An nn cn, .slice Ad nd cd])
 have HL := Lib.hid hL; have HN := Lib.hid hn; have HD := Lib.hid hd; have HS := Lib.hid hs; have HS2 := Lib.hid hs2; have HSN := Lib.hid hsn; have HSD := Lib.hid hsd; have H0 := Lib.hid h0; have H02 := Lib.hid h02; have HE := Lib.hid hends; have HA := Lib.hid hA
 clear hL hn hd hs hs2 hsn hsd h0 h02 hends hA
 go_enter Tryz.func149, Tryz.ntmps149
 go_wp2_with fail
 generalize World.alloc _ _ = W at *
 have hz := HB.out.size
 obtain ⟨nb, hnb⟩ : ∃ nb, nb = w.heap.size := ⟨_, rfl⟩
 rw [← hnb] at HK ⊢
 clear hnb
 have HNB := Lib.hid HK.out.lt
 refine (Supplied_ok An Ad As nn cn nd cd n c Bn Bd Bs ns ds s W (HL.out.below HB.out (Nat.le_refl _)) (HN.out.below HB.out hBn) (by omega) (HD.out.below HB.out hBd) (by omega) (HS.out.below HB.out hBs) (by omega) HSN.out HSD.out H0.out hnn hnd hl HE.out HA.out).mono ?_
 rintro e w1 ⟨Aa, ma, ca, la, rfl, hOa, hLa, hb1⟩
 have HB1 := Lib.hid (HB.out.trans (hb1.out.mono hz))
 have HK1 := Lib.hid (HK.out.below hb1.out HK.out.lt)
 have hz1 := HB1.out.size
 have HZa : Hid (W.heap.size ≤ w1.heap.size) := hb1.out.size
 clear hb1 HB HK
 have k0 := HK1.out.c0
 have k1 := HK1.out.c1
 go_wp2_with fail
 clear k0 k1
 refine (Supplied_ok An Ad At nn cn nd cd n2 c2 Bn Bd B2 ns ds s2 w1 (HL.out.below HB1.out (Nat.le_refl _)) (HN.out.below HB1.out hBn) (by omega) (HD.out.below HB1.out hBd) (by omega) (HS2.out.below HB1.out hB2) (by omega) HSN.out HSD.out H02.out hnn hnd hl2 HE.out HA.out).mono ?_
 rintro e w2 ⟨Ab, mb, cb, lb, rfl, hOb, hLb, hb2⟩
 have HB2 := Lib.hid ((HB1.out.trans (hb2.out.mono hz1)).alloc (by have := hb2.out.size; omega) (.cells #[.slice Ab mb cb] 22))
 have HK2 := Lib.hid ((HK1.out.below hb2.out HK1.out.lt).alloc (.cells #[.slice Ab mb cb] 22))
 have HXB := Lib.hid (Blk.new w2 22 #[.slice Ab mb cb])
 have HOA : Hid (IntsO (w2.alloc (.cells #[.slice Ab mb cb] 22)) W.heap.size Aa ma ca la) := (hOa.out.later hb2.out).alloc _
 have HOB : Hid (IntsO (w2.alloc (.cells #[.slice Ab mb cb] 22)) w1.heap.size Ab mb cb lb) := hOb.out.alloc _
 have hz2 : w1.heap.size ≤ w2.heap.size := hb2.out.size
 have hma : ma ≤ nn := by have := hLa.out.1; rw [hOa.out.len, HLN.out] at this; exact this
 have HAL : Hid (∀ gb, (Value.slice Aa ma ca).ownBlock = some gb → gb < w1.heap.size) := fun gb h => (hOa.out.lt gb h).2
 have HZ2 : Hid (w2.heap.size < (w2.alloc (.cells #[.slice Ab mb cb] 22)).heap.size) := by unfold Hid; simp
 clear hb2 HK1 hOa hOb HB1
 go_upto_region 7 with (fail)
 generalize World.alloc w2 _ = W3 at *
 obtain ⟨bb, hbb⟩ : ∃ x, x = w2.heap.size := ⟨_, rfl⟩
 rw [← hbb] at HXB HZ2 hz2 ⊢
 clear hbb
 have HPA : Hid (PredAt Tryz.prog 178 #[.pointer (some ⟨bb, 0, none⟩)] (Value.int .i64) (hasB lb) W3) := fun W' x hb =>
  lost1_gives Ab mb cb bb W3.heap.size lb x W' ((hb.cell (p := ⟨bb, 0, none⟩) HZ2.out).trans (HXB.out.cell 0)) (HOB.out.sl.below hb (Nat.le_refl _))
 have HPO : Hid (∀ blk, Aa = some ⟨blk, 0, none⟩ → PredOver Tryz.prog 178 #[.pointer (some ⟨bb, 0, none⟩)] (Value.int .i64) (hasB lb) blk 0 ma W3) := fun blk e q os dk x _ =>
  lost1_gives Ab mb cb bb W3.heap.size lb x _ (by
   have h1 := HAL.out blk (by rw [e]; rfl)
   unfold sortWorld
   rw [Go.Sort.cell?_grow _ _ _ (by show bb < (Go.Sort.putRow _ _ _ _ _).heap.size; rw [Go.Sort.size_putRow]; exact HZ2.out), Go.Sort.cell?_putRow_other _ _ blk 0 _ _ (Or.inl (by show bb ≠ blk; omega))]
   exact HXB.out.cell 0) (HOB.out.sl.over fun b off e2 => by
    have h1 := HAL.out blk (by rw [e]; rfl)
    have h2 := HOB.out.lt b
    rcases HOB.out.2 with ⟨hv, _⟩ | ⟨gb, cap, cur, hv, hb, hh, _⟩
    ·rw [e2] at hv; cases hv
    ·rw [e2] at hv
     injection hv with hv
     injection hv with hv
     injection hv with hv
     subst hv
     exact ⟨by omega, (Array.getElem?_eq_some_iff.1 hh).1⟩)
 have HDF := Lib.hid (delf_any 178 #[.pointer (some ⟨bb, 0, none⟩)] (hasB lb) (enters_of Tryz.func178 (by kernel_rfl) rfl) Aa ma ca W.heap.size la W3 HOA.out (by omega) HPA.out HPO.out)
 clear HPA HPO
 go_wp2_with fail
 refine HDF.out.mono ?_
 rintro e w4 ⟨m, rfl, hO4, hg4⟩
 have HBG : Hid (Below W.heap.size W3 w4) := ⟨hg4.out.os, hg4.out.tape, hg4.out.output, hg4.out.size, fun q hq => hg4.out.block q (by have := HZa.out; have := HZ2.out; omega) (fun e => by have := (HOA.out.lt q e.symm).1; omega)⟩
 have HB4 := Lib.hid (HB2.out.trans (HBG.out.mono hz))
 have HK4 : Hid (Blk w4 nb 30 #[.slice An nn cn, .slice Ad nd cd]) := HK2.out.below HBG.out HNB.out
 have HIN : Hid (∀ v ∈ la.filter fun x => !hasB lb x, 0 ≤ v ∧ v < nn) := fun v hv => by
  obtain ⟨k, y, rfl, hy, _⟩ := (hLa.out.2 v).1 (List.mem_filter.1 hv).1
  have := (List.getElem?_eq_some_iff.1 hy).1
  rw [HLN.out] at this
  omega
 clear HDF hg4 HBG HK2 HB2 HOA HOB HXB HAL
 have k0 := HK4.out.c0
 have k1 := HK4.out.c1
 go_wp2_with fail
 clear k0 k1
 refine (custs_any An Ad Aa nn cn nd cd m ca Bn w4.heap.size ns _ w4 (HN.out.below HB4.out hBn) (by have := HB4.out.size; omega) hO4.out.sl (Nat.le_refl _) HIN.out).mono ?_
 rintro e w5 ⟨k, rfl, hb5⟩
 go_wp2_with fail
 go_ret3
 refine ⟨Aa, m, ca, _, k, rfl, hO4.out.len, fun x => ?_, (hO4.out.later hb5.out).mono hz, HB4.out.trans (hb5.out.mono HB4.out.size)⟩
 rw [List.mem_filter]
 constructor
 ·rintro ⟨h1, h2⟩
  obtain ⟨k, y, rfl, hy, hc, hs⟩ := (hLa.out.2 x).1 h1
  refine ⟨k, y, rfl, hy, hc, hs, fun h3 => ?_⟩
  have h4 : (k : Int) ∉ lb := (hasB_not _ _).1 (by simpa using h2)
  exact h4 ((hLb.out.2 _).2 ⟨k, y, rfl, hy, hc, h3⟩)
 ·rintro ⟨k, y, rfl, hy, hc, hs, hn2⟩
  refine ⟨(hLa.out.2 _).2 ⟨k, y, rfl, hy, hc, hs⟩, ?_⟩
  have : hasB lb (k : Int) = false := (hasB_not _ _).2 fun h => by
   obtain ⟨k2, y2, e, hy2, _, hs2⟩ := (hLb.out.2 _).1 h
   have : k = k2 := by omega
   subst this
   exact hn2 hs2
  rw [this]; rfl
end Go.Proofs.YtkkobemhbicjgaaGreatDoor
