import Derived.Test.YtfaknfmndafllaaGreatDoorW31
import Derived.Test.YtfaknfmndafllaaGreatDoorW30
import Derived.Test.YtfaknfmndafllaaGreatDoorW18
import Derived.Test.YtfaknfmndafllaaGreatDoorW03
set_option maxRecDepth 100000
set_option maxHeartbeats 8000000
namespace Go.Proofs.YtfaknfmndafllaaGreatDoor
open Go.RowKit
noncomputable def sideL (ns : List Nd) (ds : List Dv) (ls : List Lk) (z : List Int) : List Int := missL ds (cntL ns ds ls z) z
noncomputable def sidesB (ns : List Nd) (ds : List Dv) (ls : List Lk) (z : List Int) : Bool := (sideL ns ds ls z).isEmpty
def ErsPost (w : World) (er : Int) (b : Bool) (e : Ending) (w' : World) : Prop := e = .returned (.tuple #[.bool (decide (er = 0) && b), .int .i64 er]) ∧ Hid (Below w.heap.size w w')
theorem Missing_any (An Ad Al Az : Option Addr) (nn cn nd cd nl cl n c : Nat) (ns : List Nd) (ds : List Dv) (ls : List Lk) (z : List Int) (w : World) (hl : Laid w) (hn : Sl w w.heap.size 3 An nn cn (ns.flatMap Nd.cells)) (hd : Sl w w.heap.size 5 Ad nd cd (ds.flatMap Dv.cells)) (hs : Sl w w.heap.size 3 Al nl cl (ls.flatMap Lk.cells)) (hz : Sl w w.heap.size 1 Az n c (intsV z))
 (hsn : ∀ x ∈ ns, x.name.size ≤ 9223372036854775807) (hsd : ∀ x ∈ ds, x.name.size ≤ 9223372036854775807) (hnz : n ≤ 10000) (hnd : nd ≤ 1000) :
 Calls Tryz.prog 167 #[.agg #[.slice An nn cn, .slice Ad nd cd], .slice Al nl cl, .slice Az n c] w (ListPost w (sideErr ns ds ls z) (sideL ns ds ls z)) := by
 have HLN := Lib.hid (hn.len (fun _ => rfl) (by decide))
 have HB : Hid (Below w.heap.size w (w.alloc (.cells #[.slice An nn cn, .slice Ad nd cd] 30))) := (Below.refl _ _).alloc (Nat.le_refl _) _
 have HK := Lib.hid (Blk.new w 30 #[.slice An nn cn, .slice Ad nd cd])
 have HC := Lib.hid (Counted_any An Ad Al Az nn cn nd cd nl cl n c ns ds ls z (w.alloc (.cells #[.slice An nn cn, .slice Ad nd cd] 30)) (hl.alloc _) ((hn.alloc (Nat.le_refl _) _).more (by simp)) ((hd.alloc (Nat.le_refl _) _).more (by simp)) ((hs.alloc (Nat.le_refl _) _).more (by simp)) ((hz.alloc (Nat.le_refl _) _).more (by simp)) hsn hsd hnz hnd)
 have HD := Lib.hid hd; have HZ := Lib.hid hz
 have HLZ := Lib.hid (hz.len (fun _ => rfl) (by decide))
 clear hl hn hd hs hz hsn hsd
 go_enter Tryz.func167, Tryz.ntmps167
 go_wp2_with fail
 generalize World.alloc w _ = W at *
 refine HC.out.mono ?_
 rintro e w1 ⟨hcase, hb1⟩
 have HB1 := Lib.hid (HB.out.trans (hb1.out.mono HB.out.size))
 have HK1 := Lib.hid (HK.out.below hb1.out HK.out.lt)
 clear HB HK HC
 rcases hcase with ⟨he, rfl⟩ | ⟨he, Ae, ne, ce, rfl, hoe⟩
 ·have q : (sideErr ns ds ls z != 0) = true := by simpa using he
  have HNZ := Lib.hid he
  clear he hb1
  go_wp2_with fail
  go_ret2
  exact ⟨.inl ⟨HNZ.out, rfl⟩, HB1.out⟩
 have HEZ := Lib.hid he
 have HZE : Hid (zoneErr ns ds z = 0) := by
  unfold Hid
  unfold sideErr at he
  split at he
  ·next h => exact absurd he h
  ·exact he
 obtain ⟨hck, hzp, hzr⟩ := zoneErr_zero HZE.out
 have HOK := Lib.hid (NetOk.of hck)
 have hnl := HOK.out.nl
 have hnn : nn ≤ 10000 := by have := HLN.out; omega
 have HZI : Hid (∀ v ∈ z, 0 ≤ v ∧ v < nn) := fun v hv => by have := ris_mem hzr v hv; rw [HLN.out] at this; omega
 have HEN : Hid (EndsOk nn ds) := by have := HOK.out.e; rw [HLN.out] at this; exact this
 have HAO : Hid (AOk nn ds) := by have := HOK.out.a; rw [HLN.out] at this; exact this
 have HCV : Hid (∀ u ∈ cntL ns ds ls z, 0 ≤ u ∧ u < nn) := fun u hu => by have := nodesL_mem.1 (List.mem_filter.1 hu).1; rw [HLN.out] at this; exact ⟨this.1, this.2.1⟩
 clear he hck hzp hzr hnl
 have hzw := HB1.out.size
 have k0 := HK1.out.c0
 have k1 := HK1.out.c1
 go_wp2_with fail
 clear k0 k1
 refine (miss_any An Ad Az Ae nn cn nd cd n c ne ce ds (cntL ns ds ls z) z w1 ((HD.out.below HB1.out (Nat.le_refl _)).more hzw) ((HZ.out.below HB1.out (Nat.le_refl _)).more hzw) hoe.out.sl hnn HEN.out HAO.out HZI.out HCV.out hnz).mono ?_
 rintro e w2 ⟨A2, c2, rfl, hO, hb2⟩
 clear hb1 hoe
 go_wp2_with fail
 go_ret2
 exact ⟨.inr ⟨HEZ.out, A2, _, c2, rfl, hO.out.mono hzw⟩, HB1.out.trans (hb2.out.mono hzw)⟩
theorem Sides_any (An Ad Al Az : Option Addr) (nn cn nd cd nl cl n c : Nat) (ns : List Nd) (ds : List Dv) (ls : List Lk) (z : List Int) (w : World) (hl : Laid w) (hn : Sl w w.heap.size 3 An nn cn (ns.flatMap Nd.cells)) (hd : Sl w w.heap.size 5 Ad nd cd (ds.flatMap Dv.cells)) (hs : Sl w w.heap.size 3 Al nl cl (ls.flatMap Lk.cells)) (hz : Sl w w.heap.size 1 Az n c (intsV z))
 (hsn : ∀ x ∈ ns, x.name.size ≤ 9223372036854775807) (hsd : ∀ x ∈ ds, x.name.size ≤ 9223372036854775807) (hnz : n ≤ 10000) (hnd : nd ≤ 1000) :
 Calls Tryz.prog 136 #[.agg #[.slice An nn cn, .slice Ad nd cd], .slice Al nl cl, .slice Az n c] w (ErsPost w (sideErr ns ds ls z) (sidesB ns ds ls z)) := by
 have HB : Hid (Below w.heap.size w (w.alloc (.cells #[.slice An nn cn, .slice Ad nd cd] 30))) := (Below.refl _ _).alloc (Nat.le_refl _) _
 have HC := Lib.hid (Missing_any An Ad Al Az nn cn nd cd nl cl n c ns ds ls z (w.alloc (.cells #[.slice An nn cn, .slice Ad nd cd] 30)) (hl.alloc _) ((hn.alloc (Nat.le_refl _) _).more (by simp)) ((hd.alloc (Nat.le_refl _) _).more (by simp)) ((hs.alloc (Nat.le_refl _) _).more (by simp)) ((hz.alloc (Nat.le_refl _) _).more (by simp)) hsn hsd hnz hnd)
 have hzl := HB.out.size
 clear hl hn hd hs hz hsn hsd
 go_enter Tryz.func136, Tryz.ntmps136
 go_wp2_with fail
 generalize World.alloc w _ = W at *
 refine HC.out.mono ?_
 rintro e w1 ⟨hcase, hb1⟩
 have HB1 := Lib.hid (HB.out.trans (hb1.out.mono HB.out.size))
 clear HB HC
 rcases hcase with ⟨he, rfl⟩ | ⟨he, Ae, ne, ce, rfl, hoe⟩
 ·have q : (sideErr ns ds ls z == 0) = false := by simpa using he
  have HNZ := Lib.hid he
  clear he hb1
  go_wp2_with fail
  go_ret2
  exact ⟨by rw [decide_eq_false HNZ.out]; rfl, HB1.out⟩
 have HEZ := Lib.hid he
 have HSB : Hid (sidesB ns ds ls z = ((ne : Int) == 0)) := by
  unfold Hid sidesB
  have := hoe.out.len
  cases hh : sideL ns ds ls z <;> rw [hh] at this <;> simp at this ⊢ <;> omega
 clear he hb1 hoe
 go_wp2_with fail
 go_ret2
 exact ⟨by rw [HEZ.out, HSB.out]; rfl, HB1.out⟩
end Go.Proofs.YtfaknfmndafllaaGreatDoor
namespace Go.Proofs.YtfaknfmndafllaaGreatDoor
def lkAt (ds : List Dv) (s : List Int) (i : Nat) : Option Lk :=
 match ds[i]? with
 | some x => if ((gapB x.kind && (s.getD i 0 == 1)) || ((x.kind == 4) && (s.getD i 0 == 2))) = true then some ⟨i, s.getD i 0, i⟩ else none
 | none => none
def lcksN (ds : List Dv) (s : List Int) (n : Nat) : List Lk := (List.range n).filterMap (lkAt ds s)
def lcksOf (ds : List Dv) (s : List Int) : List Lk := lcksN ds s ds.length
theorem lcksN_next (ds : List Dv) (s : List Int) (n : Nat) : lcksN ds s (n + 1) = lcksN ds s n ++ (lkAt ds s n).toList := by
 unfold lcksN
 rw [List.range_succ, List.filterMap_append]
 cases h : lkAt ds s n <;> simp [h]
theorem lcksN_len (ds : List Dv) (s : List Int) (n : Nat) : (lcksN ds s n).length ≤ n := by
 have := List.length_filterMap_le (lkAt ds s) (List.range n)
 rwa [List.length_range] at this
theorem lkAt_some {ds : List Dv} {s : List Int} {i : Nat} {k : Lk} (h : lkAt ds s i = some k) : ∃ x, ds[i]? = some x ∧ ((gapB x.kind = true ∧ s.getD i 0 = 1) ∨ (x.kind = 4 ∧ s.getD i 0 = 2)) ∧ k = ⟨i, s.getD i 0, i⟩ := by
 unfold lkAt at h
 cases hx : ds[i]? with
 | none => rw [hx] at h; cases h
 | some x =>
  rw [hx] at h
  dsimp only at h
  split at h
  ·next hc =>
   injection h with h
   refine ⟨x, rfl, ?_, h.symm⟩
   simpa using hc
  ·cases h
theorem lcks_mem {ds : List Dv} {s : List Int} {k : Lk} : k ∈ lcksOf ds s ↔ ∃ i, lkAt ds s i = some k := by
 unfold lcksOf lcksN
 rw [List.mem_filterMap]
 constructor
 ·rintro ⟨i, _, h⟩; exact ⟨i, h⟩
 ·rintro ⟨i, h⟩
  obtain ⟨x, hx, _⟩ := lkAt_some h
  exact ⟨i, List.mem_range.2 (List.getElem?_eq_some_iff.1 hx).1, h⟩
theorem lcks_good {ds : List Dv} (s : List Int) (hd : ds.length ≤ 64) : GoodL ds (lcksOf ds s) := by
 refine ⟨by have := lcksN_len ds s ds.length; unfold lcksOf; omega, fun k hk => ?_, ?_⟩
 ·obtain ⟨i, h⟩ := lcks_mem.1 hk
  obtain ⟨x, hx, hc, rfl⟩ := lkAt_some h
  have hi := (List.getElem?_eq_some_iff.1 hx).1
  have hkd : kindOf ds (i : Int) = x.kind := by unfold kindOf; rw [Int.toNat_natCast, hx]
  have h5 : x.kind ≠ 5 := by
   rcases hc with ⟨h, _⟩ | ⟨h, _⟩
   ·intro e; rw [e] at h; cases h
   ·omega
  unfold lkErr
  dsimp only
  rw [if_neg (by omega), if_neg (by omega), hkd, if_neg h5, if_neg (by rcases hc with ⟨_, h⟩ | ⟨_, h⟩ <;> omega), if_neg (by omega), if_neg (by omega)]
 ·unfold lcksOf lcksN
  refine List.Pairwise.filterMap (R := (· < ·)) _ ?_ List.pairwise_lt_range
  intro i j hij a ha b hb
  obtain ⟨_, _, _, rfl⟩ := lkAt_some (Option.mem_def.1 ha)
  obtain ⟨_, _, _, rfl⟩ := lkAt_some (Option.mem_def.1 hb)
  refine ⟨(bef_iff _ _).2 (.inl ?_), fun h => ?_, fun h => ?_⟩
  ·show (i : Int) < j; omega
  ·have : (i : Int) = j := h
   omega
  ·have : (i : Int) = j := h
   omega
noncomputable def secu (ns : List Nd) (ds : List Dv) (z s : List Int) : Bool := isoB ds (gpsL ds (lcksOf ds s)) z && sidesB ns ds (lcksOf ds s) z
noncomputable def goalZ (ns : List Nd) (ds : List Dv) (z s t : List Int) : Option Int := if secu ns ds z t = true then some (lostC ns ds s t) else none
end Go.Proofs.YtfaknfmndafllaaGreatDoor
namespace Go.Proofs.YtfaknfmndafllaaGreatDoor
open Go.RowKit
theorem zat_any (A : Option Addr) (B nn a : Nat) (l : List Bool) (nm : ByteArray) (kd xb co : Int) (f : Bool) (w : World) (hO : BoolsO w B A nn nn l) (ha : a < nn) (hx : l[a]? = some f) (hj : joinsB kd = false) :
 Calls Tryz.prog 191 #[.slice A nn nn, .agg #[.string nm, .int .i64 kd, .int .i64 (a : Int), .int .i64 xb, .int .i64 co]] w fun e w' => e = .returned (.bool f) ∧ Below w.heap.size w w' := by
 have HB : Hid (Below w.heap.size w (w.alloc (.cells #[.string nm, .int .i64 kd, .int .i64 (a : Int), .int .i64 xb, .int .i64 co] 68))) := (Below.refl _ _).alloc (Nat.le_refl _) _
 have HK := Lib.hid (Blk.new w 68 #[.string nm, .int .i64 kd, .int .i64 (a : Int), .int .i64 xb, .int .i64 co])
 have HOB := Lib.hid (hO.later HB.out)
 have HJ := Lib.hid (joins_any kd (w.alloc (.cells #[.string nm, .int .i64 kd, .int .i64 (a : Int), .int .i64 xb, .int .i64 co] 68)))
 rw [hj] at HJ
 have HX := Lib.hid hx
 have hnn := hO.sl.le
 clear hO hj hx
 go_enter Tryz.func191, Tryz.ntmps191
 go_upto_region 1 with (fail)
 generalize World.alloc w _ = W at *
 obtain ⟨g, x, rfl, hg1, hg2, hx, hc, -, -⟩ := HOB.out.at ha
 obtain rfl : f = x := by have := HX.out; rw [hx] at this; injection this with this; exact this.symm
 have k1 := HK.out.cell 1; have k2 := HK.out.cell 2
 clear hx
 rcases f with _ | _
 ·go_wp2_with fail
  refine HJ.out.mono ?_
  rintro e w1 ⟨rfl, rfl⟩
  go_wp2_with fail
  go_ret
  exact ⟨rfl, HB.out⟩
 ·go_wp2_with fail
  go_ret
  exact ⟨rfl, HB.out⟩
theorem zenough_any (An Ad Az Ag : Option Addr) (nn cn nd cd n c ng cg : Nat) (ds : List Dv) (z gs : List Int) (w : World) (hd : Sl w w.heap.size 5 Ad nd cd (ds.flatMap Dv.cells)) (hz : Sl w w.heap.size 1 Az n c (intsV z)) (hg : Sl w w.heap.size 1 Ag ng cg (intsV gs))
 (hnn : nn ≤ 10000) (hn : n ≤ 10000) (hends : EndsOk nn ds) (hao : AOk nn ds) (hsrc : ∀ v ∈ z, 0 ≤ v ∧ v < nn) :
 Calls Tryz.prog 166 #[.agg #[.slice An nn cn, .slice Ad nd cd], .slice Az n c, .slice Ag ng cg] w fun e w' => e = .returned (.bool (isoB ds gs z)) ∧ Below w.heap.size w w' := by
 have HLD := Lib.hid (hd.len (fun _ => rfl) (by decide))
 have hdl := hd.le
 have HB : Hid (Below w.heap.size w (w.alloc (.cells #[.slice An nn cn, .slice Ad nd cd] 30))) := (Below.refl _ _).alloc (Nat.le_refl _) _
 have HK := Lib.hid (Blk.new w 30 #[.slice An nn cn, .slice Ad nd cd])
 have HD := Lib.hid hd; have HZ := Lib.hid hz; have HG := Lib.hid hg; have HE := Lib.hid hends; have HA := Lib.hid hao; have HSR := Lib.hid hsrc
 clear hd hz hg hends hao hsrc
 go_enter Tryz.func166, Tryz.ntmps166
 go_upto_region 1 with (fail)
 generalize World.alloc w _ = W at *
 have hzW := HB.out.size
 have k0 := HK.out.cell 0; have k1 := HK.out.cell 1
 go_wp2_with fail
 clear k0 k1
 refine (region_any An Ad Az Ag nn cn nd cd n c ng cg ds z gs W ((HD.out.below HB.out (Nat.le_refl _)).more hzW) ((HZ.out.below HB.out (Nat.le_refl _)).more hzW) ((HG.out.below HB.out (Nat.le_refl _)).more hzW) hnn hn HE.out HSR.out).mono ?_
 rintro e w4 ⟨AR, rl, rfl, hl, hO, hR, hb4⟩
 have HRO := Lib.hid hO.out; have HRR := Lib.hid hR.out
 have HB4 := Lib.hid (HB.out.trans (hb4.out.mono hzW)); have HK4 := Lib.hid (HK.out.below hb4.out HK.out.lt)
 have hz4 := HB4.out.size
 obtain ⟨R, hRD⟩ : ∃ R, R = Rgn ds gs z := ⟨_, rfl⟩
 rw [← hRD] at HRR
 have HRD := Lib.hid hRD
 clear hRD hO hR hb4 HB HK hzW hl
 have k1 := HK4.out.cell 1
 go_wp2_with fail
 clear k1
 refine wp_loop_u1 [(5, 0), (0, 1), (0, 0), (2, 1), (6, 0), (0, 2), (24, 1)] 18 (nd) (EuR2 w #[.slice An nn cn, .slice Ad nd cd] w4 ds gs R nd) (by (try dsimp only [gt]); exact ⟨0, rfl, Nat.zero_le _, rfl, HK4, Below.refl _ _, fun _ hj => by omega⟩) (by kernel_rfl) ?_
 intro u1 p18 gk wr a hrel ha J1 K1 hJ1 hK1
 dsimp only [relaxR, Go.Proofs.YtfaknfmndafllaaGreatDoor.v1, Nat.reduceAdd] at ha
 subst ha
 clear HK4
 obtain ⟨j, rfl, hj, rfl, hK, hB, hH⟩ := hrel
 by_cases hlt : j < nd; rotate_left
 ·have hii : decide (j < nd) = false := by simp; omega
  have HI : Hid (isoB ds gs z = true) := iso_yes (fun i hi => by rw [← HRD.out]; exact hH.out i (by have := HLD.out; omega))
  go_wp2_with fail
  go_ret
  exact ⟨ret_bool HI.out.symm, HB4.out.trans (hB.out.mono hz4)⟩
 have hii : decide (j < nd) = true := by simpa using hlt
 obtain ⟨b, off, x, rfl, hb, hx, hc⟩ := (HD.out.below (HB4.out.trans (hB.out.mono hz4)) (Nat.le_refl _)).at (fun _ => rfl) (by decide) hlt
 have HX := Lib.hid hx
 have HAX := HA.out x (List.mem_of_getElem? hx)
 obtain ⟨nm, kd, xa, xb, co⟩ := x
 simp only at HAX
 obtain ⟨a, rfl⟩ := Int.eq_ofNat_of_zero_le HAX.1
 have han : a < nn := by have := HAX.2; omega
 have c0 : wr.cell? ⟨b, off + j * 5, none⟩ = some (.string nm) := hc 0 _ rfl
 have c1 : wr.cell? ⟨b, off + j * 5 + 1, none⟩ = some (.int .i64 kd) := hc 1 _ rfl
 have c2 : wr.cell? ⟨b, off + j * 5 + 2, none⟩ = some (.int .i64 (a : Int)) := hc 2 _ rfl
 have c3 : wr.cell? ⟨b, off + j * 5 + 3, none⟩ = some (.int .i64 xb) := hc 3 _ rfl
 have c4 : wr.cell? ⟨b, off + j * 5 + 4, none⟩ = some (.int .i64 co) := hc 4 _ rfl
 have hkk : IntKind.i64.wrap ((j : Int) + 1) = (j : Int) + 1 := IntWalk.i64_in _ (by omega)
 clear hc hx HAX
 go_upto_region 5 with (fail)
 clear c0 c1 c2 c3 c4 hb hii
 have HBK := Lib.hid (Blk.new wr 68 #[.string nm, .int .i64 kd, .int .i64 (a : Int), .int .i64 xb, .int .i64 co])
 have HBN : Hid (Below w4.heap.size w4 (wr.alloc (.cells #[.string nm, .int .i64 kd, .int .i64 (a : Int), .int .i64 xb, .int .i64 co] 68))) := hB.out.alloc hB.out.size _
 have HKN := Lib.hid (hK.out.alloc (.cells #[.string nm, .int .i64 kd, .int .i64 (a : Int), .int .i64 xb, .int .i64 co] 68))
 have HH := Lib.hid hH.out
 clear hB hK hH
 generalize World.alloc wr _ = V at *
 obtain ⟨bq, hbq⟩ : ∃ bq, bq = wr.heap.size := ⟨_, rfl⟩
 rw [← hbq] at HBK ⊢
 clear hbq
 have HOV := Lib.hid (HRO.out.later HBN.out)
 obtain ⟨f, hf⟩ : ∃ f, rl[a]? = some f := by
  obtain ⟨g, x, -, -, -, hx, -⟩ := HOV.out.at han
  exact ⟨x, hx⟩
 have HFR : Hid (f = true ↔ R (a : Int)) := by
  have := HRR.out a han
  rw [hf] at this
  exact ⟨fun h => this.1 (by rw [h]), fun h => by injection this.2 h⟩
 have HFX := Lib.hid hf
 clear hf
 have d0 := HBK.out.cell 0; have d1 := HBK.out.cell 1; have d2 := HBK.out.cell 2; have d3 := HBK.out.cell 3; have d4 := HBK.out.cell 4
 have HVW := Lib.hid (HB4.out.trans (HBN.out.mono hz4))
 rcases h5 : (kd == 5) with _ | _; rotate_left
 ·have hk5 : kd = 5 := by simpa using h5
  have HC := Lib.hid (zat_any AR _ nn a rl nm kd xb co f V HOV.out han HFX.out (by rw [hk5]; rfl))
  have HK5 := Lib.hid hk5
  clear hk5
  rcases f with _ | _
  ·have HN := Lib.hid (hit_next HH.out (fun ⟨y, hy, hr, _⟩ => by obtain rfl := Option.some.inj (HX.out.symm.trans hy); have := HFR.out.2 hr; cases this))
   go_wp2_with fail
   refine HC.out.mono ?_
   rintro e w' ⟨rfl, hb'⟩
   have HB' := Lib.hid (HBN.out.trans (hb'.mono HBN.out.size)); have HK' := Lib.hid (HKN.out.below hb' HKN.out.lt)
   clear hb'
   go_wp2_with fail
   refine Handed.intro (nd - (j + 1)) (by omega) (hJ1 _ _ _ (LpI1.back 18 ?_ (by kernel_rfl)))
   dsimp only [gt]
   exact ⟨j + 1, by go_num, by omega, rfl, HK', HB', HN⟩
  ·have HI : Hid (isoB ds gs z = false) := iso_no (i := j) ⟨_, HX.out, by rw [← HRD.out]; exact HFR.out.1 rfl, .inl HK5.out⟩
   go_wp2_with fail
   refine HC.out.mono ?_
   rintro e w' ⟨rfl, hb'⟩
   have HB' := Lib.hid (HVW.out.trans (hb'.mono HVW.out.size))
   clear hb'
   go_wp2_with fail
   go_ret
   exact ⟨ret_bool HI.out.symm, HB'.out⟩
 rcases h6 : (kd == 6) with _ | _
 ·have HN := Lib.hid (hit_next HH.out (fun ⟨y, hy, _, hk⟩ => by obtain rfl := Option.some.inj (HX.out.symm.trans hy); simp only [beq_eq_false_iff_ne, ne_eq] at h5 h6; simp only at hk; omega))
  go_wp2_with fail
  refine Handed.intro (nd - (j + 1)) (by omega) (hJ1 _ _ _ (LpI1.back 18 ?_ (by kernel_rfl)))
  dsimp only [gt]
  exact ⟨j + 1, by go_num, by omega, rfl, HKN, HBN, HN⟩
 have hk6 : kd = 6 := by simpa using h6
 have HC := Lib.hid (zat_any AR _ nn a rl nm kd xb co f V HOV.out han HFX.out (by rw [hk6]; rfl))
 have HK6 := Lib.hid hk6
 clear hk6
 have HCT := Lib.hid (contains_any Ag ng cg w.heap.size gs (j : Int) V (HG.out.below HVW.out (Nat.le_refl _)))
 rcases hgj : hasB gs (j : Int) with _ | _
 ·rw [hgj] at HCT
  have HGJ := Lib.hid hgj
  clear hgj
  go_wp2_with fail
  refine HCT.out.mono ?_
  rintro e w' ⟨rfl, rfl⟩
  rcases f with _ | _
  ·have HN := Lib.hid (hit_next HH.out (fun ⟨y, hy, hr, _⟩ => by obtain rfl := Option.some.inj (HX.out.symm.trans hy); have := HFR.out.2 hr; cases this))
   go_wp2_with fail
   refine HC.out.mono ?_
   rintro e w' ⟨rfl, hb'⟩
   have HB' := Lib.hid (HBN.out.trans (hb'.mono HBN.out.size)); have HK' := Lib.hid (HKN.out.below hb' HKN.out.lt)
   clear hb'
   go_wp2_with fail
   refine Handed.intro (nd - (j + 1)) (by omega) (hJ1 _ _ _ (LpI1.back 18 ?_ (by kernel_rfl)))
   dsimp only [gt]
   exact ⟨j + 1, by go_num, by omega, rfl, HK', HB', HN⟩
  ·have HI : Hid (isoB ds gs z = false) := iso_no (i := j) ⟨_, HX.out, by rw [← HRD.out]; exact HFR.out.1 rfl, .inr ⟨HK6.out, HGJ.out⟩⟩
   go_wp2_with fail
   refine HC.out.mono ?_
   rintro e w' ⟨rfl, hb'⟩
   have HB' := Lib.hid (HVW.out.trans (hb'.mono HVW.out.size))
   clear hb'
   go_wp2_with fail
   go_ret
   exact ⟨ret_bool HI.out.symm, HB'.out⟩
 ·rw [hgj] at HCT
  have HN := Lib.hid (hit_next HH.out (fun ⟨y, hy, _, hk⟩ => by
   obtain rfl := Option.some.inj (HX.out.symm.trans hy)
   simp only at hk
   have h6' := HK6.out
   rcases hk with hk | ⟨_, hk⟩
   ·omega
   ·rw [hgj] at hk; cases hk))
  clear hgj
  go_wp2_with fail
  refine HCT.out.mono ?_
  rintro e w' ⟨rfl, rfl⟩
  go_wp2_with fail
  refine Handed.intro (nd - (j + 1)) (by omega) (hJ1 _ _ _ (LpI1.back 18 ?_ (by kernel_rfl)))
  dsimp only [gt]
  exact ⟨j + 1, by go_num, by omega, rfl, HKN, HBN, HN⟩
theorem zlocked_any (An Ad Al Az : Option Addr) (nn cn nd cd nl cl n c : Nat) (ns : List Nd) (ds : List Dv) (ls : List Lk) (z : List Int) (w : World) (hl : Laid w) (hn : Sl w w.heap.size 3 An nn cn (ns.flatMap Nd.cells)) (hd : Sl w w.heap.size 5 Ad nd cd (ds.flatMap Dv.cells)) (hs : Sl w w.heap.size 3 Al nl cl (ls.flatMap Lk.cells)) (hz : Sl w w.heap.size 1 Az n c (intsV z))
 (hsn : ∀ x ∈ ns, x.name.size ≤ 9223372036854775807) (hsd : ∀ x ∈ ds, x.name.size ≤ 9223372036854775807) (hnd : nd ≤ 1000) :
 Calls Tryz.prog 165 #[.agg #[.slice An nn cn, .slice Ad nd cd], .slice Al nl cl, .slice Az n c] w fun e w' => (sideErr ns ds ls z ≠ 0 ∧ (∃ v, e = .returned (.tuple #[v, .int .i64 (sideErr ns ds ls z)])) ∨ sideErr ns ds ls z = 0 ∧ ∃ (A : Option Addr) (cg : Nat), e = .returned (.tuple #[.slice A (gpsL ds ls).length cg, .int .i64 0]) ∧ Hid (IntsO w' w.heap.size A (gpsL ds ls).length cg (gpsL ds ls))) ∧ Hid (Below w.heap.size w w') := by
 have HLD := Lib.hid (hd.len (fun _ => rfl) (by decide))
 have HB : Hid (Below w.heap.size w (w.alloc (.cells #[.slice An nn cn, .slice Ad nd cd] 30))) := (Below.refl _ _).alloc (Nat.le_refl _) _
 have HK := Lib.hid (Blk.new w 30 #[.slice An nn cn, .slice Ad nd cd])
 have HN := Lib.hid hn; have HD := Lib.hid hd; have HS := Lib.hid hs; have HZ := Lib.hid hz; have HSN := Lib.hid hsn; have HSD := Lib.hid hsd; have HLA := Lib.hid hl
 clear hn hd hs hz hsn hsd hl
 go_enter Tryz.func165, Tryz.ntmps165
 go_upto_region 1 with (fail)
 generalize World.alloc w _ = W at *
 have hzW := HB.out.size
 have k0 := HK.out.cell 0; have k1 := HK.out.cell 1
 go_wp2_with fail
 clear k0 k1
 refine (gaps_any An Ad Al nn cn nd cd nl cl w.heap.size w.heap.size w.heap.size ns ds ls W (HLA.out.below HB.out (Nat.le_refl _)) (HN.out.below HB.out (Nat.le_refl _)) (HD.out.below HB.out (Nat.le_refl _)) (HS.out.below HB.out (Nat.le_refl _)) hzW hzW hzW hnd HSN.out HSD.out).mono ?_
 rintro e w1 ⟨hcase, hb1⟩
 have HB1 := Lib.hid (HB.out.trans (hb1.out.mono hzW)); have HK1 := Lib.hid (HK.out.below hb1.out HK.out.lt)
 have hz1 := HB1.out.size
 clear hb1 HB HK
 rcases hcase with ⟨he, rfl⟩ | ⟨he, Ag, cg, rfl, hog⟩
 ·have q : (locksErr ns ds ls == 0) = false := by simpa using he
  have HE : Hid (sideErr ns ds ls z = locksErr ns ds ls) := by unfold Hid sideErr; rw [if_pos he]
  have HNZ := Lib.hid he
  clear he
  go_wp2_with fail
  go_ret2
  exact ⟨.inl ⟨by rw [HE.out]; exact HNZ.out, _, by rw [HE.out]; rfl⟩, HB1.out⟩
 have HE : Hid (sideErr ns ds ls z = zoneErr ns ds z) := by unfold Hid sideErr; rw [if_neg (by omega)]
 have HGL : Hid (thoTo ds ls 1 gapB nd = gpsL ds ls) := by unfold Hid gpsL; rw [HLD.out]
 clear he
 rw [HGL.out] at hog ⊢
 have HOG := Lib.hid hog.out
 clear hog
 have k0 := HK1.out.cell 0; have k1 := HK1.out.cell 1
 go_wp2_with fail
 clear k0 k1
 refine (zcheck_any An Ad Az nn cn nd cd n c ns ds z w1 (HLA.out.below HB1.out (Nat.le_refl _)) ((HN.out.below HB1.out (Nat.le_refl _)).more hz1) ((HD.out.below HB1.out (Nat.le_refl _)).more hz1) ((HZ.out.below HB1.out (Nat.le_refl _)).more hz1) HSN.out HSD.out).mono ?_
 rintro e w2 ⟨rfl, hb2⟩
 have HB2 := Lib.hid (HB1.out.trans (hb2.mono hz1))
 have HOG2 := Lib.hid (HOG.out.later hb2)
 clear hb2 HK1
 go_wp2_with fail
 go_ret2
 by_cases h0 : zoneErr ns ds z = 0
 ·exact ⟨.inr ⟨by rw [HE.out]; exact h0, Ag, cg, by rw [h0]; rfl, HOG2.out.mono hzW⟩, HB2.out⟩
 ·exact ⟨.inl ⟨by rw [HE.out]; exact h0, _, by rw [HE.out]; rfl⟩, HB2.out⟩
theorem zIsolated_any (An Ad Al Az : Option Addr) (nn cn nd cd nl cl n c : Nat) (ns : List Nd) (ds : List Dv) (ls : List Lk) (z : List Int) (w : World) (hl : Laid w) (hn : Sl w w.heap.size 3 An nn cn (ns.flatMap Nd.cells)) (hd : Sl w w.heap.size 5 Ad nd cd (ds.flatMap Dv.cells)) (hs : Sl w w.heap.size 3 Al nl cl (ls.flatMap Lk.cells)) (hz : Sl w w.heap.size 1 Az n c (intsV z))
 (hsn : ∀ x ∈ ns, x.name.size ≤ 9223372036854775807) (hsd : ∀ x ∈ ds, x.name.size ≤ 9223372036854775807) (hnz : n ≤ 10000) (hnd : nd ≤ 1000) :
 Calls Tryz.prog 135 #[.agg #[.slice An nn cn, .slice Ad nd cd], .slice Al nl cl, .slice Az n c] w (ErsPost w (sideErr ns ds ls z) (isoB ds (gpsL ds ls) z)) := by
 have HLN := Lib.hid (hn.len (fun _ => rfl) (by decide))
 have HB : Hid (Below w.heap.size w (w.alloc (.cells #[.slice An nn cn, .slice Ad nd cd] 30))) := (Below.refl _ _).alloc (Nat.le_refl _) _
 have HK := Lib.hid (Blk.new w 30 #[.slice An nn cn, .slice Ad nd cd])
 have HN := Lib.hid hn; have HD := Lib.hid hd; have HS := Lib.hid hs; have HZ := Lib.hid hz; have HSN := Lib.hid hsn; have HSD := Lib.hid hsd; have HLA := Lib.hid hl
 clear hn hd hs hz hsn hsd hl
 go_enter Tryz.func135, Tryz.ntmps135
 go_upto_region 1 with (fail)
 generalize World.alloc w _ = W at *
 have hzW := HB.out.size
 have k0 := HK.out.cell 0; have k1 := HK.out.cell 1
 go_wp2_with fail
 clear k0 k1
 refine (zlocked_any An Ad Al Az nn cn nd cd nl cl n c ns ds ls z W (HLA.out.below HB.out (Nat.le_refl _)) ((HN.out.below HB.out (Nat.le_refl _)).more hzW) ((HD.out.below HB.out (Nat.le_refl _)).more hzW) ((HS.out.below HB.out (Nat.le_refl _)).more hzW) ((HZ.out.below HB.out (Nat.le_refl _)).more hzW) HSN.out HSD.out hnd).mono ?_
 rintro e w1 ⟨hcase, hb1⟩
 have HB1 := Lib.hid (HB.out.trans (hb1.out.mono hzW)); have HK1 := Lib.hid (HK.out.below hb1.out HK.out.lt)
 have hz1 := HB1.out.size
 clear hb1 HB HK
 rcases hcase with ⟨he, v, rfl⟩ | ⟨he, Ag, cg, rfl, hog⟩
 ·have q : (sideErr ns ds ls z != 0) = true := by simpa using he
  have HNZ : Hid (decide (sideErr ns ds ls z = 0) = false) := by simpa [Hid] using he
  clear he
  go_wp2_with fail
  go_ret2
  exact ⟨by rw [HNZ.out]; rfl, HB1.out⟩
 have HE := Lib.hid he
 obtain ⟨hck, hzp, hzr⟩ : checkN ns ds = 0 ∧ 0 < z.length ∧ risL ns.length (-1) z = true := by
  have h2 := he
  unfold sideErr at h2
  split at h2
  ·next h3 => exact absurd h2 h3
  ·exact zoneErr_zero h2
 have HOK := Lib.hid (NetOk.of hck)
 have HZR : Hid (∀ v ∈ z, 0 ≤ v ∧ v < (ns.length : Int)) := fun v hv => by have := ris_mem hzr v hv; omega
 have HGS := Lib.hid hog.out.sl
 obtain ⟨gs, hgs⟩ : ∃ gs, gs = gpsL ds ls := ⟨_, rfl⟩
 rw [← hgs] at HGS ⊢
 have HGE := Lib.hid hgs
 obtain ⟨ng, hng⟩ : ∃ ng, ng = gs.length := ⟨_, rfl⟩
 rw [← hng] at HGS ⊢
 clear he hck hzp hzr hgs hng hog
 have hnn : nn ≤ 10000 := by have := HOK.out.nl; rw [HLN.out] at this; omega
 have k0 := HK1.out.cell 0; have k1 := HK1.out.cell 1
 go_wp2_with fail
 clear k0 k1
 refine (zenough_any An Ad Az Ag nn cn nd cd n c ng cg ds z gs w1 ((HD.out.below HB1.out (Nat.le_refl _)).more hz1) ((HZ.out.below HB1.out (Nat.le_refl _)).more hz1) HGS.out hnn hnz (by rw [← HLN.out]; exact HOK.out.e) (by rw [← HLN.out]; exact HOK.out.a) (by rw [← HLN.out]; exact HZR.out)).mono ?_
 rintro e w2 ⟨rfl, hb2⟩
 have HB2 := Lib.hid (HB1.out.trans (hb2.mono hz1))
 go_wp2_with fail
 go_ret2
 exact ⟨by rw [HE.out, ← HGE.out]; rfl, HB2.out⟩
theorem eSecure_any (An Ad Al Az : Option Addr) (nn cn nd cd nl cl n c : Nat) (ns : List Nd) (ds : List Dv) (ls : List Lk) (z : List Int) (w : World) (hl : Laid w) (hn : Sl w w.heap.size 3 An nn cn (ns.flatMap Nd.cells)) (hd : Sl w w.heap.size 5 Ad nd cd (ds.flatMap Dv.cells)) (hs : Sl w w.heap.size 3 Al nl cl (ls.flatMap Lk.cells)) (hz : Sl w w.heap.size 1 Az n c (intsV z))
 (hsn : ∀ x ∈ ns, x.name.size ≤ 9223372036854775807) (hsd : ∀ x ∈ ds, x.name.size ≤ 9223372036854775807) (hnz : n ≤ 10000) (hnd : nd ≤ 1000) :
 Calls Tryz.prog 97 #[.agg #[.slice An nn cn, .slice Ad nd cd], .slice Al nl cl, .slice Az n c] w (ErsPost w (sideErr ns ds ls z) (isoB ds (gpsL ds ls) z && sidesB ns ds ls z)) := by
 have HB : Hid (Below w.heap.size w (w.alloc (.cells #[.slice An nn cn, .slice Ad nd cd] 30))) := (Below.refl _ _).alloc (Nat.le_refl _) _
 have HK := Lib.hid (Blk.new w 30 #[.slice An nn cn, .slice Ad nd cd])
 have HLA := Lib.hid (hl.below HB.out (Nat.le_refl _))
 have HN := Lib.hid hn; have HD := Lib.hid hd; have HS := Lib.hid hs; have HZ := Lib.hid hz; have HSN := Lib.hid hsn; have HSD := Lib.hid hsd
 clear hn hd hs hz hsn hsd hl
 go_enter Tryz.func97, Tryz.ntmps97
 go_upto_region 1 with (fail)
 generalize World.alloc w _ = W at *
 have hzW := HB.out.size
 have k0 := HK.out.cell 0; have k1 := HK.out.cell 1
 go_wp2_with fail
 clear k0 k1
 refine (zIsolated_any An Ad Al Az nn cn nd cd nl cl n c ns ds ls z W HLA.out ((HN.out.below HB.out (Nat.le_refl _)).more hzW) ((HD.out.below HB.out (Nat.le_refl _)).more hzW) ((HS.out.below HB.out (Nat.le_refl _)).more hzW) ((HZ.out.below HB.out (Nat.le_refl _)).more hzW) HSN.out HSD.out hnz hnd).mono ?_
 rintro e w1 ⟨rfl, hb1⟩
 have HB1 := Lib.hid (HB.out.trans (hb1.out.mono hzW)); have HK1 := Lib.hid (HK.out.below hb1.out HK.out.lt)
 have HLB := Lib.hid (HLA.out.below hb1.out (Nat.le_refl _))
 clear hb1 HB HK hzW HLA
 have hz1 := HB1.out.size
 by_cases he : sideErr ns ds ls z = 0; rotate_left
 ·have q : (sideErr ns ds ls z != 0) = true := by simpa using he
  have HNZ : Hid (decide (sideErr ns ds ls z = 0) = false) := by simpa [Hid] using he
  clear he
  go_wp2_with fail
  go_ret2
  exact ⟨by rw [HNZ.out]; rfl, HB1.out⟩
 have HZE := Lib.hid he
 rw [he]
 clear he
 have k0 := HK1.out.cell 0; have k1 := HK1.out.cell 1
 rcases hib : isoB ds (gpsL ds ls) z with _ | _
 ·have HIB := Lib.hid hib
  clear hib
  go_wp2_with fail
  go_ret2
  exact ⟨by rw [HZE.out, HIB.out]; rfl, HB1.out⟩
 have HIB := Lib.hid hib
 clear hib
 go_wp2_with fail
 clear k0 k1
 have hsd := Sides_any An Ad Al Az nn cn nd cd nl cl n c ns ds ls z w1 HLB.out ((HN.out.below HB1.out (Nat.le_refl _)).more hz1) ((HD.out.below HB1.out (Nat.le_refl _)).more hz1) ((HS.out.below HB1.out (Nat.le_refl _)).more hz1) ((HZ.out.below HB1.out (Nat.le_refl _)).more hz1) HSN.out HSD.out hnz hnd
 unfold ErsPost at hsd
 rw [HZE.out] at hsd
 refine hsd.mono ?_
 rintro e w2 ⟨rfl, hb2⟩
 have HBE := Lib.hid (HB1.out.trans (hb2.out.mono hz1))
 clear hb2 hsd
 go_wp2_with fail
 go_ret2
 exact ⟨by rw [HZE.out, HIB.out]; rfl, HBE.out⟩
end Go.Proofs.YtfaknfmndafllaaGreatDoor
namespace Go.Proofs.YtfaknfmndafllaaGreatDoor
open Go.RowKit
def dfL (s t : List Int) (k : Nat) : List Nat := (List.range k).filter fun i => !(s.getD i 0 == t.getD i 0)
theorem dfL_len (s t : List Int) (k : Nat) : (dfL s t k).length ≤ k := by
 have := List.length_filter_le (fun i => !(s.getD i 0 == t.getD i 0)) (List.range k)
 rwa [List.length_range] at this
theorem dfL_next (s t : List Int) (k : Nat) : dfL s t (k + 1) = dfL s t k ++ if s.getD k 0 == t.getD k 0 then [] else [k] := by
 unfold dfL
 rw [List.range_succ, List.filter_append]
 cases hb : (s.getD k 0 == t.getD k 0) <;> simp only [List.filter_cons, List.filter_nil, hb] <;> rfl
theorem dfL_nil {s t : List Int} (h : s.length = t.length) : dfL s t (min s.length t.length) = [] ↔ s = t := by
 unfold dfL
 rw [List.filter_eq_nil_iff]
 constructor
 ·intro hk
  apply List.ext_getElem? 
  intro i
  by_cases hi : i < s.length
  ·have := hk i (List.mem_range.2 (by omega))
   rw [List.getD_eq_getElem?_getD, List.getD_eq_getElem?_getD, List.getElem?_eq_getElem hi, List.getElem?_eq_getElem (by omega : i < t.length)] at this
   rw [List.getElem?_eq_getElem hi, List.getElem?_eq_getElem (by omega : i < t.length)]
   simpa using this
  ·rw [List.getElem?_eq_none (by omega), List.getElem?_eq_none (by omega)]
 ·rintro rfl i _; simp
def DfPost (w : World) (s t : List Int) (e : Ending) (w' : World) : Prop :=
 ∃ (A : Option Addr) (c : Nat), e = .returned (.slice A (dfL s t (min s.length t.length)).length c) ∧ Hid (w'.ownsRow w.heap.size 3 1 (.slice A (dfL s t (min s.length t.length)).length c) (dfL s t (min s.length t.length)).length (natsV (dfL s t (min s.length t.length)))) ∧ Hid (Below w.heap.size w w')
def DfR (W : World) (s t : List Int) (N : Nat) (gk : Nat) (v5 iv : Value) (wr : World) : Prop :=
 ∃ (k : Nat) (A : Option Addr) (c : Nat), v5 = .slice A (dfL s t k).length c ∧ iv = .int .i64 k ∧ k ≤ N ∧ gk = N - k ∧ Hid (wr.ownsRow W.heap.size 3 1 (.slice A (dfL s t k).length c) (dfL s t k).length (natsV (dfL s t k))) ∧ Hid (Below W.heap.size W wr)
theorem DfR.no {W wr : World} {s t : List Int} {N k c : Nat} {A : Option Addr} (hb : (s.getD k 0 == t.getD k 0) = true) (hk : k < N) (ho : wr.ownsRow W.heap.size 3 1 (.slice A (dfL s t k).length c) (dfL s t k).length (natsV (dfL s t k))) (hl : Below W.heap.size W wr) : DfR W s t N (N - (k + 1)) (.slice A (dfL s t k).length c) (.int .i64 ((k : Int) + 1)) wr := by
 have e : dfL s t (k + 1) = dfL s t k := by rw [dfL_next, hb]; simp
 refine ⟨k + 1, A, c, by rw [e], rfl, hk, rfl, ?_, hl⟩
 rw [e]; exact ho
theorem DfR.yes {W wr : World} {s t : List Int} {N k c : Nat} {A : Option Addr} (hb : (s.getD k 0 == t.getD k 0) = false) (hk : k < N) (ho : wr.ownsRow W.heap.size 3 1 (.slice A ((dfL s t k).length + 1) c) ((dfL s t k).length + 1) (natsV (dfL s t k) ++ [.int .i64 (k : Int)])) (hl : Below W.heap.size W wr) : DfR W s t N (N - (k + 1)) (.slice A ((dfL s t k).length + 1) c) (.int .i64 ((k : Int) + 1)) wr := by
 have e : dfL s t (k + 1) = dfL s t k ++ [k] := by rw [dfL_next, hb]; simp
 have hl1 : (dfL s t (k + 1)).length = (dfL s t k).length + 1 := by rw [e]; simp
 refine ⟨k + 1, A, c, by rw [hl1], rfl, hk, rfl, ?_, hl⟩
 rw [hl1, e, show natsV (dfL s t k ++ [k]) = natsV (dfL s t k) ++ [.int .i64 (k : Int)] from by unfold natsV; rw [List.flatMap_append]; rfl]
 exact ho
theorem rsdiff_any (As At : Option Addr) (n1 c1 n2 c2 B1 B2 : Nat) (s t : List Int) (w : World) (hs : Sl w B1 1 As n1 c1 (intsV s)) (ht : Sl w B2 1 At n2 c2 (intsV t)) (h1 : B1 ≤ w.heap.size) (h2 : B2 ≤ w.heap.size) (hn : n1 ≤ 1000000) :
 Calls Tryz.prog 14 #[.slice As n1 c1, .slice At n2 c2] w (DfPost w s t) := by
 have HLS := Lib.hid (hs.len (fun _ => rfl) (by decide)); have HLT := Lib.hid (ht.len (fun _ => rfl) (by decide))
 have HS := Lib.hid hs; have HT := Lib.hid ht
 have hsm := hs.le; have htm := ht.le
 clear hs ht
 obtain ⟨N, hN⟩ : ∃ N, N = min n1 n2 := ⟨_, rfl⟩
 have hN1 : N ≤ n1 := by omega
 have hN2 : N ≤ n2 := by omega
 have HNN : Hid (N = min s.length t.length) := by unfold Hid; rw [HLS.out, HLT.out]; exact hN
 have hmin : min (n1 : Int) (n2 : Int) = (N : Int) := by omega
 have HN := Lib.hid hN
 clear hN
 go_enter Tryz.func14, Tryz.ntmps14
 go_wp2_with fail
 refine wp_loop_u2 [(4, 0), (0, 2), (0, 1), (4, 0), (0, 3), (15, 1), (0, 0)] 5 12 (N) (DfR w s t N) (by (try dsimp only [gt]); exact ⟨0, none, 0, rfl, rfl, Nat.zero_le _, rfl, World.ownsRow_nil _ _ _ _, Below.refl _ _⟩) (by kernel_rfl) ?_
 intro u1 p5 p12 gk wr a hrel ha J1 K1 hJ1 hK1
 dsimp only [relaxR, Go.Proofs.YtfaknfmndafllaaGreatDoor.v2, Nat.reduceAdd] at ha
 subst ha
 obtain ⟨k, A, c, rfl, rfl, hk, rfl, ho, hl⟩ := hrel
 have HO := Lib.hid ho.out; have HL := Lib.hid hl.out
 clear ho hl
 have hdl := dfL_len s t k
 by_cases hlt : k < N; rotate_left
 ·have q1 : decide (k < N) = false := by simpa using hlt
  obtain rfl : k = N := by omega
  go_wp2_with fail
  go_ret
  refine ⟨A, c, ?_, by rw [← HNN.out]; exact HO.out, HL.out⟩
  rw [← HNN.out]; rfl
 have q1 : decide (k < N) = true := by simpa using hlt
 obtain ⟨b1, o1, x1, rfl, hb1, hx1, e1⟩ := (HS.out.below HL.out h1).at1 (by omega : k < n1)
 obtain ⟨b2, o2, x2, rfl, hb2, hx2, e2⟩ := (HT.out.below HL.out h2).at1 (by omega : k < n2)
 have HE : Hid ((s.getD k 0 == t.getD k 0) = (x1 == x2)) := by unfold Hid; rw [List.getD_eq_getElem?_getD, List.getD_eq_getElem?_getD, hx1, hx2]; rfl
 have hkk : IntKind.i64.wrap ((k : Int) + 1) = (k : Int) + 1 := IntWalk.i64_in _ (by omega)
 have hk1 : k < n1 := by omega
 have hk2 : k < n2 := by omega
 have hm1 : n1 ≤ 9223372036854775807 := by omega
 have hm2 : n2 ≤ 9223372036854775807 := by omega
 have HQ := Lib.hid fun q => below_drewN (Below.refl wr.heap.size wr) q
 clear hx1 hx2
 cases hx : x1 != x2 with
 | false =>
  have HX : Hid ((s.getD k 0 == t.getD k 0) = true) := by unfold Hid; rw [HE.out]; simpa using hx
  go_upto_region 5 with (fail)
  clear q1
  go_quiet (fail)
  generalize hq : World.drewN wr _ = Wq
  have HBQ : Hid (Below wr.heap.size wr Wq) := by rw [← hq]; exact HQ.out _
  clear hq HQ e1 e2
  go_wp2_with fail
  refine Handed.intro (N - (k + 1)) (by omega) (hJ1 _ _ _ (LpI2.back 5 12 ?_ (by kernel_rfl)))
  dsimp only [gt]
  exact DfR.no HX.out hlt (own_later HO.out HBQ.out) (HL.out.trans (HBQ.out.mono HL.out.size))
 | true =>
  have HX : Hid ((s.getD k 0 == t.getD k 0) = false) := by unfold Hid; rw [HE.out]; simpa using hx
  go_upto_region 5 with (fail)
  clear q1
  go_quiet (fail)
  generalize hq : World.drewN wr _ = Wq
  have HBQ : Hid (Below wr.heap.size wr Wq) := by rw [← hq]; exact HQ.out _
  clear hq HQ e1 e2
  have HO2 := Lib.hid (own_later HO.out HBQ.out)
  have HL2 := Lib.hid (HL.out.trans (HBQ.out.mono HL.out.size))
  go_upto_region 7 with (at_builtin; go_must (refine wpList_app rfl (.tmp 24) (.tmp 26) rfl el_int (by rfl) (HO2.out.alloc _) (by rfl) (Sl.newest (n := 1) rfl rfl (by decide)) (by simp [Value.oneCell']) (by omega) (by omega) (by have := HL2.out.size; simp; omega) ?_; intro A5 c5 w5 hown5 hgr5 hat5; have HO5 := Lib.hid hown5; have HG5 := Lib.hid hgr5; clear hown5 hgr5 hat5))
  have HL5 := Lib.hid ((HL2.out.alloc HL2.out.size _).grown HG5.out (by have := HL2.out.size; simp; omega) fun g e => (HO2.out.lt g e).1)
  go_wp2_with fail
  refine Handed.intro (N - (k + 1)) (by omega) (hJ1 _ _ _ (LpI2.back 5 12 ?_ (by kernel_rfl)))
  dsimp only [gt]
  exact DfR.yes HX.out hlt HO5.out HL5.out
theorem tgis_any (As At : Option Addr) (n c1 c2 : Nat) (s t : List Int) (w : World) (hs : Sl w w.heap.size 1 As n c1 (intsV s)) (ht : Sl w w.heap.size 1 At n c2 (intsV t)) (hn : n ≤ 1000000) :
 Calls Tryz.prog 40 #[.slice At n c2, .slice As n c1] w fun e w' => e = .returned (.tuple #[.int .i64 0, .bool (decide (s = t))]) ∧ Below w.heap.size w w' := by
 have HLS := Lib.hid (hs.len (fun _ => rfl) (by decide)); have HLT := Lib.hid (ht.len (fun _ => rfl) (by decide))
 have HC := Lib.hid (rsdiff_any As At n c1 n c2 w.heap.size w.heap.size s t w hs ht (Nat.le_refl _) (Nat.le_refl _) hn)
 clear hs ht
 have HE : Hid (((dfL s t (min s.length t.length)).length == 0) = decide (s = t)) := by
  unfold Hid
  have := dfL_nil (HLS.out.trans HLT.out.symm)
  rw [Bool.eq_iff_iff, beq_iff_eq, List.length_eq_zero_iff, decide_eq_true_iff]
  exact this
 go_enter Tryz.func40, Tryz.ntmps40
 go_wp2_with fail
 refine HC.out.mono ?_
 rintro e w1 ⟨A, c, rfl, hO, hb⟩
 have HB := Lib.hid hb.out
 clear hO hb HC
 generalize (dfL s t (min s.length t.length)).length = z at *
 have hz : ((z : Int) == 0) = (z == 0) := by rw [Bool.eq_iff_iff, beq_iff_eq, beq_iff_eq]; omega
 go_wp2_with fail
 go_ret2
 refine ⟨?_, HB.out⟩
 rw [← HE.out]; rfl
end Go.Proofs.YtfaknfmndafllaaGreatDoor
namespace Go.Proofs.YtfaknfmndafllaaGreatDoor
open Go.RowKit
def stsE (ns : List Nd) (ds : List Dv) (s t : List Int) : Int := if stateErr ns ds s ≠ 0 then stateErr ns ds s else stateErr ns ds t
theorem rstates_any (An Ad As At : Option Addr) (nn cn nd cd n c n2 c2 : Nat) (ns : List Nd) (ds : List Dv) (s t : List Int) (w : World) (hla : Laid w) (hn : Sl w w.heap.size 3 An nn cn (ns.flatMap Nd.cells)) (hd : Sl w w.heap.size 5 Ad nd cd (ds.flatMap Dv.cells)) (hs : Sl w w.heap.size 1 As n c (intsV s)) (ht : Sl w w.heap.size 1 At n2 c2 (intsV t)) (hsn : ∀ x ∈ ns, x.name.size ≤ 9223372036854775807) (hsd : ∀ x ∈ ds, x.name.size ≤ 9223372036854775807) :
 Calls Tryz.prog 38 #[.agg #[.slice An nn cn, .slice Ad nd cd], .slice As n c, .slice At n2 c2] w fun e w' => e = .returned (.int .i64 (stsE ns ds s t)) ∧ Below w.heap.size w w' := by
 have HBL : Hid (Below w.heap.size w (w.alloc (.cells #[.slice An nn cn, .slice Ad nd cd] 30))) := (Below.refl _ _).alloc (Nat.le_refl _) _
 have HB := Lib.hid (Blk.new w 30 #[.slice An nn cn, .slice Ad nd cd])
 have HN := Lib.hid hn; have HD := Lib.hid hd; have HS := Lib.hid hs; have HT := Lib.hid ht; have HLA := Lib.hid hla; have HSN := Lib.hid hsn; have HSD := Lib.hid hsd
 clear hla hn hd hs ht hsn hsd
 go_enter Tryz.func38, Tryz.ntmps38
 go_upto_region 1 with (fail)
 generalize World.alloc w _ = W at *
 have n0 := HB.out.cell 0; have n1 := HB.out.cell 1
 have HC := Lib.hid (mstate_any An Ad As nn cn nd cd n c w.heap.size w.heap.size w.heap.size ns ds s W (HLA.out.below HBL.out (Nat.le_refl _)) (HN.out.below HBL.out (Nat.le_refl _)) (HD.out.below HBL.out (Nat.le_refl _)) (HS.out.below HBL.out (Nat.le_refl _)) HBL.out.size HBL.out.size HBL.out.size HSN.out HSD.out)
 go_wp2_with fail
 refine HC.out.mono ?_
 rintro e w1 ⟨rfl, hb1⟩
 have HB1 := Lib.hid (HB.out.below hb1 HB.out.lt)
 have HL1 := Lib.hid (HBL.out.trans (hb1.mono HBL.out.size))
 clear HC HB HBL n0 n1 hb1
 by_cases h1 : stateErr ns ds s = 0; rotate_left
 ·have q1 : (stateErr ns ds s != 0) = true := by simpa using h1
  have HE : Hid (stsE ns ds s t = stateErr ns ds s) := by unfold Hid stsE; rw [if_pos h1]
  clear h1
  go_wp2_with fail
  go_ret
  exact ⟨by rw [HE.out]; rfl, HL1.out⟩
 have HE : Hid (stsE ns ds s t = stateErr ns ds t) := by unfold Hid stsE; rw [if_neg (by rw [h1]; simp)]
 have q1 : (stateErr ns ds s != 0) = false := by simpa using h1
 clear h1
 have n0 := HB1.out.cell 0; have n1 := HB1.out.cell 1
 have HC := Lib.hid (mstate_any An Ad At nn cn nd cd n2 c2 w.heap.size w.heap.size w.heap.size ns ds t w1 (HLA.out.below HL1.out (Nat.le_refl _)) (HN.out.below HL1.out (Nat.le_refl _)) (HD.out.below HL1.out (Nat.le_refl _)) (HT.out.below HL1.out (Nat.le_refl _)) HL1.out.size HL1.out.size HL1.out.size HSN.out HSD.out)
 go_wp2_with fail
 refine HC.out.mono ?_
 rintro e w2 ⟨rfl, hb2⟩
 have HL2 := Lib.hid (HL1.out.trans (hb2.mono HL1.out.size))
 clear HC n0 n1 hb2
 go_wp2_with fail
 go_ret
 exact ⟨by rw [HE.out]; rfl, HL2.out⟩
def srErr (ns : List Nd) (ds : List Dv) (s t : List Int) (co : Int) (ls : List Lk) (pr : List Int) : Int := if stsE ns ds s t ≠ 0 then stsE ns ds s t else pbErr ns ds s co ls pr
def goalT (t σ : List Int) : Option Int := if σ = t then some 0 else none
theorem pbErr_ok {ns : List Nd} {ds : List Dv} {s : List Int} {co : Int} {ls : List Lk} {pr : List Int} (h : pbErr ns ds s co ls pr = 0) : mvErr ns ds co ls pr = 0 := by
 unfold pbErr at h
 split at h
 ·next h1 => exact absurd h h1
 ·next h1 => simpa using h1
theorem goal_is {w : World} {At : Option Addr} {n c2 m : Nat} {s t : List Int} {M : Nat → Nat} (ht : Sl w w.heap.size 1 At n c2 (intsV t)) (hn : n ≤ 1000000) : GoalC w 40 #[.slice At n c2] #[] n m s M (goalT t) := by
 intro W A c b hb hA _
 refine (tgis_any A At n c c2 (sbN s M b m) t W hA ((ht.below hb (Nat.le_refl _)).more hb.size) hn).mono ?_
 rintro e w' ⟨rfl, h⟩
 refine ⟨⟨0, decide (sbN s M b m = t), rfl, ?_⟩, h⟩
 unfold goalT
 by_cases e : sbN s M b m = t <;> simp [e]
def SrcPost (w : World) (ns : List Nd) (ds : List Dv) (s t : List Int) (co : Int) (ls : List Lk) (pr : List Int) (e : Ending) (w' : World) : Prop :=
 ((srErr ns ds s t co ls pr ≠ 0 ∧ e = .returned (.tuple #[.slice none 0 0, .int .i64 (srErr ns ds s t co ls pr)])) ∨ (srErr ns ds s t co ls pr = 0 ∧ ((NoneIs (stS (permB ns ds co ls pr [5]) (mvF ds ls co) (mvS ds ls co ds.length).length) s (goalT t) ∧ e = .returned (.tuple #[.slice none 0 0, .int .i64 15])) ∨ ∃ (p : List Nat) (A : Option Addr) (c : Nat), SomeIs (stS (permB ns ds co ls pr [5]) (mvF ds ls co) (mvS ds ls co ds.length).length) s (goalT t) p ∧ p.length ≤ 1024 ∧ e = .returned (.tuple #[.slice A p.length c, .int .i64 0]) ∧ w'.ownsRow w.heap.size 62 2 (.slice A p.length c) p.length (opsV (opsP (mvF ds ls co) s p))))) ∧ Hid (Below w.heap.size w w')
theorem rsearch_any (An Ad As Al Ap At : Option Addr) (nn cn nd cd n c nl cl np cp n2 c2 : Nat) (ns : List Nd) (ds : List Dv) (s t : List Int) (ls : List Lk) (pr : List Int) (co : Int) (w : World) (h : HzMem w An Ad As Al Ap nn cn nd cd n c nl cl np cp ns ds s ls pr) (ht : Sl w w.heap.size 1 At n2 c2 (intsV t)) :
 Calls Tryz.prog 13 #[.agg #[.slice An nn cn, .slice Ad nd cd], .slice As n c, .agg #[.int .i64 co, .slice Al nl cl, .slice Ap np cp], .slice At n2 c2] w (SrcPost w ns ds s t co ls pr) := by
 obtain ⟨hln, hld, hls⟩ := h.ln
 have hlt := ht.len (fun _ => rfl) (by decide)
 have HH := Lib.hid h; have HT := Lib.hid ht
 have HLN : Hid (s.length = n ∧ ds.length = nd ∧ t.length = n2) := ⟨hls, hld, hlt⟩
 clear h ht hln hld hls hlt
 have HB := Lib.hid (Bxg.new w #[.slice An nn cn, .slice Ad nd cd] #[.int .i64 co, .slice Al nl cl, .slice Ap np cp])
 go_enter Tryz.func13, Tryz.ntmps13
 go_upto_region 1 with (fail)
 generalize World.alloc (World.alloc w _) _ = W at *
 have HM := Lib.hid (HH.out.below HB.out.bl)
 have n0 := HB.out.bn.cell 0; have n1 := HB.out.bn.cell 1
 have HC := Lib.hid (rstates_any An Ad As At nn cn nd cd n c n2 c2 ns ds s t W HM.out.la HM.out.hn HM.out.hd HM.out.hs ((HT.out.below HB.out.bl (Nat.le_refl _)).more HB.out.bl.size) HM.out.sn HM.out.sd)
 go_wp2_with fail
 refine HC.out.mono ?_
 rintro e w1 ⟨rfl, hb1⟩
 have HB1 := Lib.hid (HB.out.later hb1)
 clear HC HB HM hb1 n0 n1
 by_cases h1 : stsE ns ds s t = 0; rotate_left
 ·have q1 : (stsE ns ds s t != 0) = true := by simpa using h1
  have HE : Hid (srErr ns ds s t co ls pr = stsE ns ds s t) := by unfold Hid srErr; rw [if_pos h1]
  have HNE := Lib.hid h1
  clear h1
  go_wp2_with fail
  go_ret2
  exact ⟨.inl ⟨by rw [HE.out]; exact HNE.out, by rw [HE.out]; rfl⟩, HB1.out.bl⟩
 have HSE : Hid (srErr ns ds s t co ls pr = pbErr ns ds s co ls pr) := by unfold Hid srErr; rw [if_neg (by rw [h1]; simp)]
 have q1 : (stsE ns ds s t != 0) = false := by simpa using h1
 have HS0 : Hid (stateErr ns ds s = 0) := by
  unfold stsE at h1
  split at h1
  ·next h2 => exact absurd h1 h2
  ·next h2 => unfold Hid; simpa using h2
 have HT0 : Hid (stateErr ns ds t = 0) := by unfold stsE at h1; rw [if_neg (by rw [HS0.out]; simp)] at h1; exact h1
 clear h1
 have HLA1 : Hid (Below w.heap.size w (w1.alloc (.cells #[.int .i64 5] 3))) := HB1.out.bl.alloc HB1.out.bl.size _
 have HB2 := Lib.hid (HB1.out.later ((Below.refl _ _).alloc (Nat.le_refl _) (.cells #[.int .i64 5] 3)))
 have HM2 := Lib.hid (HH.out.below HLA1.out)
 have HBT : Hid (Sl (w1.alloc (.cells #[.int .i64 5] 3)) (w1.alloc (.cells #[.int .i64 5] 3)).heap.size 1 (some ⟨w1.heap.size, 0, none⟩) 1 1 (intsV [5])) := by
  have := Sl.newest (w := w1) (cs := #[.int .i64 5]) (T := 3) (fr := (0, 0)) (n := 1) (size := 1) rfl rfl (by decide)
  exact this.more (by simp)
 have HC := Lib.hid (problem_any An Ad As Al Ap (some ⟨w1.heap.size, 0, none⟩) nn cn nd cd n c nl cl np cp 1 1 ns ds s ls pr [5] co (w1.alloc (.cells #[.int .i64 5] 3)) HM2.out HS0.out HBT.out)
 have n0 := HB1.out.bn.cell 0; have n1 := HB1.out.bn.cell 1; have g0 := HB1.out.bg.cell 0; have g1 := HB1.out.bg.cell 1; have g2 := HB1.out.bg.cell 2
 go_wp2_with fail
 refine HC.out.mono ?_
 rintro e w3 ⟨hpb, hb3⟩
 clear HC n0 n1 g0 g1 g2 q1
 have HL3 := Lib.hid (HLA1.out.trans (hb3.out.mono HLA1.out.size))
 rcases hpb with ⟨h1, rfl⟩ | ⟨h1, nb, gb, bb, cm, Am, rfl, hP, hMv⟩
 ·have q1 : (pbErr ns ds s co ls pr != 0) = true := by simpa using h1
  have HNE := Lib.hid h1
  have HL4 := Lib.hid (HL3.out.alloc HL3.out.size (.cells #[.slice none 0 0, .slice none 0 0, .nilFunc] 90))
  clear h1 hb3 HB1 HB2 HM2 HBT HLA1
  go_wp2_with fail
  go_ret2
  exact ⟨.inl ⟨by rw [HSE.out]; exact HNE.out, by rw [HSE.out]; rfl⟩, HL4.out⟩
 have HSZ : Hid (srErr ns ds s t co ls pr = 0) := by unfold Hid; rw [HSE.out]; exact h1
 obtain ⟨hck, hgr, hm10⟩ := mvErr_ok (pbErr_ok h1)
 have hlens := (stateErr_net HT0.out).2
 have hlens2 := (stateErr_net HS0.out).2
 have hd64 := (NetOk.of hck).dl
 have hn2 : n = n2 := by have := HLN.out; omega
 have hn64 : n ≤ 64 := by have := HLN.out; omega
 have HMO : Hid (∀ i, i < (mvS ds ls co ds.length).length → mvF ds ls co i < n) := fun i hi => by have := mvF_lt hi; have := HLN.out; omega
 subst hn2
 have HLV := Lib.hid (HL3.out.alloc HL3.out.size (.cells #[.slice As n c, (.slice Am (mvS ds ls co ds.length).length cm), (.func (.func 72) #[] #[.pointer (some ⟨nb, 0, none⟩), .pointer (some ⟨gb, 0, none⟩), .pointer (some ⟨bb, 0, none⟩)])] 90))
 have HBV : Hid (Below w3.heap.size w3 (w3.alloc (.cells #[.slice As n c, (.slice Am (mvS ds ls co ds.length).length cm), (.func (.func 72) #[] #[.pointer (some ⟨nb, 0, none⟩), .pointer (some ⟨gb, 0, none⟩), .pointer (some ⟨bb, 0, none⟩)])] 90))) := (Below.refl _ _).alloc (Nat.le_refl _) _
 have HPX := Lib.hid (Blk.new w3 90 #[.slice As n c, (.slice Am (mvS ds ls co ds.length).length cm), (.func (.func 72) #[] #[.pointer (some ⟨nb, 0, none⟩), .pointer (some ⟨gb, 0, none⟩), .pointer (some ⟨bb, 0, none⟩)])])
 have HPC := Lib.hid (hP.out.later HBV.out)
 have HMC := Lib.hid ((hMv.out.below HBV.out (Nat.le_refl _)).more HBV.out.size)
 clear hP hMv hb3 HB1 HB2 HM2 HBT HLA1 HL3 HBV h1 hck hgr hlens hlens2 hd64
 go_upto_region 8 with (fail)
 obtain ⟨x, hx⟩ : ∃ x, x = w3.heap.size := ⟨_, rfl⟩
 rw [← hx] at HPX ⊢
 clear hx
 generalize World.alloc w3 _ = V at *
 have HMV := Lib.hid (HH.out.below HLV.out)
 have HTV := Lib.hid ((HT.out.below HLV.out (Nat.le_refl _)).more HLV.out.size)
 have HC := Lib.hid (ptfind_any 72 40 #[.pointer (some ⟨nb, 0, none⟩), .pointer (some ⟨gb, 0, none⟩), .pointer (some ⟨bb, 0, none⟩)] #[.slice At n c2] #[] As Am n c (mvS ds ls co ds.length).length cm s (mvF ds ls co) (permB ns ds co ls pr [5]) (goalT t) V HMV.out.hs HMC.out hn64 hm10 HMO.out (stateErr_pos HS0.out) (mvF_asc ds ls co).inj (enters_of Tryz.func72 (by kernel_rfl) rfl) (enters_of Tryz.func40 (by kernel_rfl) rfl) HPC.out (goal_is HTV.out (by omega)))
 have p0 := HPX.out.cell 0; have p1 := HPX.out.cell 1; have p2 := HPX.out.cell 2
 go_wp2_with fail
 refine HC.out.mono ?_
 rintro e w4 ⟨hf, hb4⟩
 have HL4 := Lib.hid (HLV.out.trans (hb4.out.mono HLV.out.size))
 have HSV := Lib.hid HLV.out.size
 clear HC p0 p1 p2 HPX HPC HMC HMV HTV hb4 HLV
 rcases hf with ⟨rfl, hno⟩ | ⟨p, A, cA, rfl, hso, hpl, hO⟩
 ·have HNO := Lib.hid hno
  clear hno
  go_wp2_with fail
  go_ret2
  exact ⟨.inr ⟨HSZ.out, .inl ⟨HNO.out, rfl⟩⟩, HL4.out⟩
 ·have HSO := Lib.hid hso
  have HPL : Hid (p.length ≤ 1024) := Nat.le_trans hpl (Nat.pow_le_pow_right (n := 2) (by decide) hm10)
  have HO := Lib.hid hO
  clear hso hpl hO
  go_wp2_with fail
  go_ret2
  exact ⟨.inr ⟨HSZ.out, .inr ⟨p, A, cA, HSO.out, HPL.out, rfl, HO.out.mono HSV.out⟩⟩, HL4.out⟩
end Go.Proofs.YtfaknfmndafllaaGreatDoor
